/- Part 18 of 24 of the proof of rollbackOptions_holds (no condition). -/
import Derived.Test.YtdaajdflefnjfaaGreatK17
set_option linter.unusedVariables false
set_option linter.unusedSimpArgs false
set_option maxRecDepth 100000
set_option maxHeartbeats 64000000
namespace Go.Proofs.YtdaajdflefnjfaaGreat
open Go.RowKit Go.Proofs.Tryz
def CK (x:Pc):List Tm→Wk→Prop
 | [],_=>True
 | a :: l,w=>eO w.c.queues=true∧aU w.c.queues a.name=true∧w.ev.length≤900000∧CK x l (bL w x a.name)
theorem pL (d:Nat) (w:Wk) (i:Nat) (hi:i<w.c.procs.length) (hok:CK (w.pc i) (cY (w.pc i).req.expr) w) (hi2:i<(eG (w.pc i) (cY (w.pc i).req.expr) w).c.procs.length):FSpec prog 130 [j6,mb i] (HI d w) [3,4] (.tup []) (HO d (az w i)):=by
 refine bJ func130 ?_
 obtain ⟨x,hx⟩:∃x,w.c.procs[i]? = some x:=⟨_,List.getElem?_eq_getElem hi⟩
 have hpc:=j7 hx
 unfold az
 rw [hpc] at hok hi2 ⊢
 have h8:=dy x.req.expr
 obtain ⟨L,hL⟩:∃L,cY x.req.expr=L:=⟨_,rfl⟩
 rw [hL] at hok hi2 h8 ⊢
 obtain ⟨W,hW⟩:∃W,eG x L w=W:=⟨_,rfl⟩
 rw [hW] at hi2 ⊢
 repeat' (first
  | refine af ?_ ?_
  | refine aa 9 rfl (cC [] (ji d x.req.expr hL) ?_)
  | refine en ?_
  | exact ah|refine ae fun hb=>?_)
 refine ao (fun y:Nat×Wk=>y.1≤L.length∧CK x (L.drop y.1) y.2∧eG x (L.drop y.1) y.2=W) (fun y=>cy [0,1,2,4,1010,1011] [(0,.v j6),(1,.v (mb i)),(4,.c (.ptr 4 0)),(5,.c (.sl cL L)),(6,.i y.1)] [(0,.box 169 (Db y.2 1010 1011)),(4,.box 38 (x.d d)),(1010,.arr 38 (sa d) y.2.c.procs),(1011,.arr 296 qq y.2.ev)]) (fun y=>L.length-y.1) (0,w) ⟨Nat.zero_le _,hok,hW⟩ (by exact ap (qf [(1010,1),(1011,2)])) ?_
 rintro ⟨k,v⟩ ⟨hk,hv,hs⟩
 dsimp only at *
 by_cases hlt:k<L.length
 ·rw [List.drop_eq_getElem_cons hlt] at hv hs
  obtain ⟨v1,v2,v3,v4⟩:=hv
  repeat' (first
   | refine af ?_ ?_
   | refine aa 9 rfl (cH (qf [(1,1010),(2,1011),(3,1003),(4,1004)]) (IR d v x L[k].name v1 v2 v3) ?_)
   | refine en ?_
   | exact ah|refine ae fun hb=>?_)
  refine ⟨(k+1,bL v x L[k].name),⟨by dsimp only;omega,v4,hs⟩,by dsimp only;omega,?_⟩
  exact ap (qf [(1010,1003),(1011,1004)])
 ·obtain rfl:v=W:=by rw [←hs,List.drop_eq_nil_of_le (by omega)];rfl
  repeat' (first
   | refine af ?_ ?_
   | refine aa 9 rfl (cH (qf [(1,1010),(2,1011),(3,1005),(4,1006)]) (IK d v i hi2) ?_)
   | refine en ?_
   | exact ah|refine ae fun hb=>?_
   | (exact Eb (qf [(3,1005),(4,1006)])))
def Bl (x:Pc) (i:Nat):List Tm→List Bool→Wk→Prop
 | a :: l,b :: bs,w=>eO w.c.queues=true∧aU w.c.queues a.name=true∧w.ev.length≤900000∧i<w.c.procs.length∧Bl x i l bs (bif b then iX w i x.proc a.name else bL w x a.name)
 | _,_,_=>True
def Lf (v:Wk) (i:Nat):Wk:=di (v.pc i) i (cY (v.pc i).req.expr) (cP (v.pc i).req.expr (br v.c.queues (v.pc i).proc (v.pc i).req.expr)) (v.note 2 (v.pc i).proc)
def StOk:Nat→Wk→Prop
 | 0,v=>v.c.procs.length≤100000∧eP v.c.queues 0 v.c.procs=none
 | n+1,v=>v.c.procs.length≤100000∧v.ev.length≤900000∧∀i,eP v.c.queues 0 v.c.procs=some i→i<v.c.procs.length∧i<(Lf v i).c.procs.length∧
   Bl (v.pc i) i (cY (v.pc i).req.expr) (cP (v.pc i).req.expr (br v.c.queues (v.pc i).proc (v.pc i).req.expr)) (v.note 2 (v.pc i).proc)∧StOk n (km v i)
theorem StOk.len {n:Nat} {v:Wk} (h:StOk n v):v.c.procs.length≤100000:=by cases n <;> exact h.1
theorem yj (d:Nat) (w:Wk) (h8:w.c.procs.length≤100000) {o:Option Nat} (ho:eP w.c.queues 0 w.c.procs=o):FSpec prog 190 [j6] (HI d w) [3,4] (.i (K5 o)) (HO d w):=ho▸su d w h8
theorem gI (w:Wk) (i:Nat) (x:Pc):(w.setP i x).c.procs.length=w.c.procs.length:=List.length_set
theorem mj (d:Nat) (w:Wk) (n:Nat) (hok:StOk n w):FSpec prog 132 [j6] (HI d w) [3,4] (.tup []) (HO d (aS n w)):=by
 refine bJ func132 ?_
 obtain ⟨W,hW⟩:∃W,aS n w=W:=⟨_,rfl⟩
 rw [hW]
 have h0:=hok.len
 repeat' (first
  | refine af ?_ ?_
  | refine aa 9 rfl (cH (qf [(3,1003),(4,1004)]) (su d w h0) ?_)
  | refine en ?_
  | exact ah|refine ae fun hb=>?_)
 refine ao (fun y:Nat×Wk=>StOk y.1 y.2∧aS y.1 y.2=W) (fun y=>cy [0,1,2,1010,1011] [(0,.v j6),(2,.i (K5 (eP y.2.c.queues 0 y.2.c.procs)))] [(0,.box 169 (Db y.2 1010 1011)),(1010,.arr 38 (sa d) y.2.c.procs),(1011,.arr 296 qq y.2.ev)]) (fun y=>y.1) (n,w) ⟨hok,hW⟩ (by exact ap (qf [(1010,1003),(1011,1004)])) ?_
 rintro ⟨m,v⟩ ⟨hv,hs⟩
 dsimp only at *
 cases ho:eP v.c.queues 0 v.c.procs with
 | none =>
  obtain rfl:v=W:=by
   rw [←hs]
   cases m with
   | zero=>rfl
   | succ m=>simp [aS,ho]
  have hneg:K5 none = -1:=rfl
  repeat' (first
   | refine af ?_ ?_
   | refine en ?_
   | exact ah|(refine ae fun hb=>?_;first|(exact absurd hb (by decide))|skip)
   | (exact Eb (qf [(3,1010),(4,1011)])))
 | some i =>
  cases m with
  | zero=>rw [hv.2] at ho;cases ho
  | succ m =>
   obtain ⟨_,hev,hall⟩:=hv
   obtain ⟨hi,hi2,hfin,hnext⟩:=hall i ho
   rw [show aS (m+1) v=aS m (km v i) by simp [aS,ho]] at hs
   obtain ⟨x,hx⟩:∃x,v.c.procs[i]? = some x:=⟨_,List.getElem?_eq_getElem hi⟩
   have hpc:=j7 hx
   unfold Lf at hi2
   have hfw:km v i=bb (eC (di (v.pc i) i (cY (v.pc i).req.expr) (cP (v.pc i).req.expr (br v.c.queues (v.pc i).proc (v.pc i).req.expr)) (v.note 2 (v.pc i).proc)) i) i:=rfl
   rw [hfw] at hs hnext
   clear hfw
   rw [hpc] at hi2 hfin hs hnext
   have h8:=dy x.req.expr
   obtain ⟨L,hL⟩:∃L,cY x.req.expr=L:=⟨_,rfl⟩
   have hgl:(br v.c.queues x.proc x.req.expr).length≤1000:=by simp [br];omega
   obtain ⟨keep,hkeep⟩:∃keep,cP x.req.expr (br v.c.queues x.proc x.req.expr)=keep:=⟨_,rfl⟩
   have hkl:keep.length=L.length:=by rw [←hkeep,ul,hL]
   have kP:=JP d x.req.expr (br v.c.queues x.proc x.req.expr) hgl
   rw [hkeep] at kP hi2 hfin hs hnext
   rw [hL] at hi2 hfin hs hnext h8
   obtain ⟨F,hF⟩:∃F,di x i L keep (v.note 2 x.proc)=F:=⟨_,rfl⟩
   rw [hF] at hi2 hs hnext
   have hx1:K5 (some i)=(i:Int):=rfl
   repeat' (first
    | refine af ?_ ?_
    | (refine aa 9 rfl ?_;first
     | (refine cH (qf [(1,1010),(2,1011),(3,1003),(4,1004)]) (EA d v 2 x.proc (by omega)) ?_)
     | (refine cC [] (lA d v.c.queues x.proc x.req.expr) ?_)
     | (refine cC [] (kP) ?_)
     | (refine cC [] (ji d x.req.expr hL) ?_))
    | refine en ?_
    | exact ah|(refine ae fun hb=>?_;first|(exact absurd hb (by rw [hx1];omega))|skip))
   refine ao (fun y:Nat×Wk=>y.1≤L.length∧Bl x i (L.drop y.1) (keep.drop y.1) y.2∧di x i (L.drop y.1) (keep.drop y.1) y.2=F) (fun y=>cy [0,1,2,3,1020,1021] [(0,.v j6),(2,.i i),(3,.c (.ptr 3 0)),(4,.c (.sl fc keep)),(5,.c (.sl cL L)),(6,.i y.1)] [(0,.box 169 (Db y.2 1020 1021)),(3,.box 38 (x.d d)),(1020,.arr 38 (sa d) y.2.c.procs),(1021,.arr 296 qq y.2.ev)]) (fun y=>L.length-y.1) (0,v.note 2 x.proc) ⟨Nat.zero_le _,hfin,hF⟩ (by exact ap (qf [(1020,1003),(1021,1004)])) ?_
   rintro ⟨k,u⟩ ⟨hk,hu,hg⟩
   dsimp only at *
   by_cases hlt:k<L.length
   case neg =>
    obtain rfl:u=F:=by rw [←hg,List.drop_eq_nil_of_le (by omega),List.drop_eq_nil_of_le (by omega)];rfl
    obtain ⟨o2,ho2⟩:∃o2,eP (bb (eC u i) i).c.queues 0 (bb (eC u i) i).c.procs=o2:=⟨_,rfl⟩
    have hl2:i<(eC u i).c.procs.length:=by rw [eC,gI];exact hi2
    have hl3:=hnext.len
    repeat' (first
     | refine af ?_ ?_
     | (refine aa 9 rfl ?_;first
      | (refine cH (qf [(1,1020),(2,1021),(3,1040),(4,1041)]) (IK d u i hi2) ?_)
      | (refine cH (qf [(1,1040),(2,1041),(3,1050),(4,1051)]) (mW d (eC u i) i hl2) ?_)
      | (refine cH (qf [(1,1050),(2,1051),(3,1060),(4,1061)]) (yj d (bb (eC u i) i) hl3 ho2) ?_))
     | refine en ?_
     | exact ah|refine ae fun hb=>?_)
    refine ⟨(m,bb (eC u i) i),⟨hnext,hs⟩,by dsimp only;omega,?_⟩
    dsimp only
    rw [ho2]
    exact ap (qf [(1010,1060),(1011,1061)])
   rw [List.drop_eq_getElem_cons hlt,List.drop_eq_getElem_cons (l:=keep) (by omega)] at hu hg
   obtain ⟨u1,u2,u3,u4,u5⟩:=hu
   obtain ⟨b,hb1⟩:∃b,keep[k]'(by omega)=b:=⟨_,rfl⟩
   have hgb:keep[k]? = some b:=by rw [List.getElem?_eq_getElem (by omega),hb1]
   obtain ⟨a,ha⟩:∃a,L[k]=a:=⟨_,rfl⟩
   have hga:L[k]? = some a:=by rw [List.getElem?_eq_getElem hlt,ha]
   rw [hb1] at u5 hg
   rw [ha] at u2 u5 hg
   cases b with
   | false =>
    repeat' (first
     | refine af ?_ ?_
     | refine aa 9 rfl (cH (qf [(1,1020),(2,1021),(3,1030),(4,1031)]) (IR d u x a.name u1 u2 u3) ?_)
     | refine en ?_
     | exact ah|refine ae fun hb=>?_)
    refine ⟨(k+1,bL u x a.name),⟨by dsimp only;omega,u5,hg⟩,by dsimp only;omega,?_⟩
    exact ap (qf [(1020,1030),(1021,1031)])
   | true =>
    obtain ⟨j,hj,hFj,hqj⟩:=wd u2
    obtain ⟨y,hy⟩:∃y,u.c.procs[i]? = some y:=⟨_,List.getElem?_eq_getElem u4⟩
    have hpy:=j7 hy
    obtain ⟨h,hh⟩:∃h,aj u.c.queues[j].holds x.proc=h:=⟨_,rfl⟩
    have kH:=eQ u.c.queues[j] x.proc
    rw [hh] at kH
    obtain ⟨l,hll⟩:∃l,ay y.led.entries a.name=l:=⟨_,rfl⟩
    have kLh:=iY y.led.entries a.name
    rw [hll] at kLh
    have hrec:iX u i x.proc a.name=bif decide (h=l) then u else u.setP i { y with led:=(gS y.led ⟨a.name,l,h⟩).1 }:=by
     unfold iX
     rw [hqj,hh,hpy,hll]
    rw [show di x i (a :: L.drop (k+1)) (true :: keep.drop (k+1)) u=di x i (L.drop (k+1)) (keep.drop (k+1)) (iX u i x.proc a.name) from rfl,hrec] at hg
    rw [hrec] at u5
    by_cases hhl:h=l
    ·rw [decide_eq_true hhl,cond_true] at u5 hg
     repeat' (first
      | refine af ?_ ?_
      | (refine aa 9 rfl ?_;first
       | (refine cB [] (cV u.c.queues a.name hFj) ?_)
       | (refine cB [] (kH) ?_)
       | (refine cB [] (kLh) ?_))
      | refine en ?_
      | exact ah|refine ae fun hb=>?_)
     refine ⟨(k+1,u),⟨by dsimp only;omega,u5,hg⟩,by dsimp only;omega,?_⟩
     exact ap (qf [])
    ·rw [decide_eq_false hhl,cond_false] at u5 hg
     obtain ⟨R,hR⟩:∃R,gS y.led ⟨a.name,l,h⟩=R:=⟨_,rfl⟩
     rw [hR] at u5 hg
     repeat' (first
      | refine af ?_ ?_
      | (refine aa 9 rfl ?_;first
       | (refine cB [] (cV u.c.queues a.name hFj) ?_)
       | (refine cB [] (kH) ?_)
       | (refine cB [] (kLh) ?_)
       | (refine cC [] (G9 y.led ⟨a.name,l,h⟩ hR) ?_))
      | refine en ?_
      | (refine aa 4 rfl ?_;refine bW (aL (z:={ y with led:=R.1 }) rfl rfl rfl rfl hy rfl rfl rfl rfl (Nat.le_of_ble_eq_true rfl) rfl rfl) rfl rfl rfl ?_)
      | exact ah|refine ae fun hb=>?_)
     refine ⟨(k+1,u.setP i { y with led:=R.1 }),⟨by dsimp only;omega,u5,hg⟩,by dsimp only;omega,?_⟩
     exact ap (qf [])
def Lh (l:List Pc):Prop:=∀x∈l,(-1000000000000≤x.since∧x.since≤1000000000000)∧-1000000000000≤x.req.limit∧x.req.limit≤1000000000000
theorem zW (now:Int) (k:Nat) (x:Pc) (l:List Pc) (b:Int×Int):jg now k (x :: l) b=jg now (k+1) l (bif x.waiting && !decide (x.req.limit=0) && decide (x.since+x.req.limit≤now) && (decide (b.1<0) || decide (x.since+x.req.limit<b.2)) then ((k:Int),x.since+x.req.limit) else b):=rfl
theorem yk (d:Nat) (w:Wk) (h8:w.c.procs.length≤100000) (hx:Lh w.c.procs):FSpec prog 183 [j6] (HI d w) [3,4] (.i (eZ w)) (HO d w):=by
 refine bJ func183 ?_
 obtain ⟨E,hE⟩:∃E,jg w.c.now 0 w.c.procs (-1,0)=E:=⟨_,rfl⟩
 rw [show eZ w=E.1 from congrArg Prod.fst hE]
 repeat' (first
  | refine af ?_ ?_
  | refine en ?_
  | exact ah|refine ae fun hb=>?_)
 refine ao (fun y:Nat×Int×Int=>y.1≤w.c.procs.length∧jg w.c.now y.1 (w.c.procs.drop y.1) y.2=E) (fun y=>cy [0,1,2] [(0,.v j6),(3,.i y.2.1),(4,.i y.2.2),(5,.i y.1)] [(0,.box 169 (Db w 1 2)),(1,.arr 38 (sa d) w.c.procs),(2,.arr 296 qq w.ev)]) (fun y=>w.c.procs.length-y.1) (0,-1,0) ⟨Nat.zero_le _,hE⟩ (by exact ap (qf [])) ?_
 rintro ⟨i,b⟩ ⟨hi,hs⟩
 dsimp only at *
 by_cases hlt:i<w.c.procs.length
 case neg =>
  obtain rfl:b=E:=by rw [←hs,List.drop_eq_nil_of_le (by omega)];rfl
  repeat' (first
   | refine af ?_ ?_
   | refine en ?_
   | exact ah|refine ae fun hb=>?_
   | (refine aP (qf [(3,1),(4,2)]) ?_;exact ab))
 obtain ⟨x,hxe⟩:∃x,w.c.procs[i]=x:=⟨_,rfl⟩
 have hgx:w.c.procs[i]? = some x:=by rw [List.getElem?_eq_getElem hlt,hxe]
 obtain ⟨⟨k1,k2⟩,k3,k4⟩:=hx x (hxe▸List.getElem_mem hlt)
 rw [List.drop_eq_getElem_cons hlt,hxe,zW] at hs
 by_cases hc:(x.waiting && !decide (x.req.limit=0) && decide (x.since+x.req.limit≤w.c.now) && (decide (b.1<0) || decide (x.since+x.req.limit<b.2)))=true
 ·rw [hc,cond_true] at hs
  simp only [Bool.and_eq_true,Bool.or_eq_true,Bool.not_eq_true',decide_eq_true_eq,decide_eq_false_iff_not] at hc
  obtain ⟨⟨⟨c1,c2⟩,c3⟩,c4⟩:=hc
  repeat' (first
   | refine af ?_ ?_
   | refine en ?_
   | exact ah|refine ae fun hb=>?_)
  all_goals refine ⟨(i+1,(i:Int),x.since+x.req.limit),⟨by dsimp only;omega,hs⟩,by dsimp only;omega,?_⟩
  all_goals exact ap (qf [])
 ·rw [Bool.eq_false_iff.2 hc,cond_false] at hs
  repeat' (first
   | refine af ?_ ?_
   | refine en ?_
   | exact ah|refine ae fun hb=>?_)
  all_goals first
   | (exfalso;refine hc ?_;simp only [Bool.and_eq_true,Bool.or_eq_true,Bool.not_eq_true',decide_eq_true_eq,decide_eq_false_iff_not];refine ⟨⟨⟨?_,?_⟩,?_⟩,?_⟩ <;> first|assumption|(left;assumption)|(right;assumption))
   | (refine ⟨(i+1,b),⟨by dsimp only;omega,hs⟩,by dsimp only;omega,?_⟩;exact ap (qf []))
def kq (n:ByteArray) (E:List En) (i:Nat) (s:Sv):Sv:=⟨s.label,s.at_-((E.take (min i s.at_.toNat)).countP fun e=>!oth n e:Nat)⟩
theorem EV (n:ByteArray) (E:List En) (s:Sv):kq n E 0 s=s:=by
 cases s;simp [kq]
theorem EW {n:ByteArray} {E:List En} {i:Nat} (hi:i<E.length) (h:oth n E[i]=true) (s:Sv):kq n E (i+1) s=kq n E i s:=by
 unfold kq
 by_cases hs:s.at_.toNat≤i
 ·rw [Nat.min_eq_right hs,Nat.min_eq_right (by omega)]
 ·rw [Nat.min_eq_left (by omega),Nat.min_eq_left (by omega),List.take_succ_eq_append_getElem hi,List.countP_append]
  simp [h]
theorem Hr {n:ByteArray} {E:List En} {i:Nat} {s:Sv} (hs:s.at_≤i):kq n E (i+1) s=kq n E i s:=by
 unfold kq
 rw [Nat.min_eq_right (by omega),Nat.min_eq_right (by omega)]
theorem EX {n:ByteArray} {E:List En} {i:Nat} (hi:i<E.length) (h:oth n E[i]=false) {s:Sv} (hs:(i:Int)<s.at_):kq n E (i+1) s=⟨s.label,(kq n E i s).at_-1⟩:=by
 unfold kq
 rw [Nat.min_eq_left (by omega),Nat.min_eq_left (by omega),List.take_succ_eq_append_getElem hi,List.countP_append]
 simp [h]
 omega
theorem Hs {n:ByteArray} {E:List En} {s:Sv} (h0:0≤s.at_) (h1:s.at_≤E.length):kq n E E.length s=⟨s.label,((E.take s.at_.toNat).filter (oth n)).length⟩:=by
 unfold kq
 rw [Nat.min_eq_right (by omega),←List.countP_eq_length_filter]
 have h2:=List.length_eq_countP_add_countP (oth n) (l:=E.take s.at_.toNat)
 have h3:(E.take s.at_.toNat).length=s.at_.toNat:=by simp;omega
 congr 1
 have h4:(fun a=>decide ¬oth n a=true)=fun e=>!oth n e:=by funext e;cases oth n e <;> rfl
 rw [h4] at h2
 omega
theorem zX {n:ByteArray} {E:List En} {i:Nat} {s:Sv} (h0:0≤s.at_):0≤(kq n E i s).at_∧(kq n E i s).at_≤s.at_:=by
 unfold kq
 have:=List.countP_le_length (p:=fun e=>!oth n e) (l:=E.take (min i s.at_.toNat))
 rw [List.length_take] at this
 dsimp only
 omega
def Bm (n:ByteArray) (E:List En) (S:List Sv) (i k:Nat):List Sv:=(S.take k).map (kq n E (i+1))++(S.drop k).map (kq n E i)
theorem we {n:ByteArray} {E:List En} {S:List Sv} {i k:Nat}:(Bm n E S i k).length=S.length:=by simp [Bm];omega
theorem EY {n:ByteArray} {E:List En} {S:List Sv} {i:Nat}:Bm n E S i 0=S.map (kq n E i):=by simp [Bm]
theorem Ht {n:ByteArray} {E:List En} {S:List Sv} {i k:Nat} (h:S.length≤k):Bm n E S i k=S.map (kq n E (i+1)):=by simp [Bm,List.take_of_length_le h,List.drop_eq_nil_of_le h]
theorem wg {n:ByteArray} {E:List En} {S:List Sv} {i k:Nat} (h:k≤S.length) (j:Nat):(Bm n E S i k)[j]? = S[j]?.map fun s=>if j<k then kq n E (i+1) s else kq n E i s:=by
 have hl:((S.take k).map (kq n E (i+1))).length=k:=by rw [List.length_map,List.length_take];omega
 unfold Bm
 by_cases hj:j<k
 ·rw [List.getElem?_append_left (by omega),List.getElem?_map,List.getElem?_take_of_lt hj]
  simp [hj]
 ·rw [List.getElem?_append_right (by omega),hl,List.getElem?_map,List.getElem?_drop,show k+(j-k)=j by omega]
  simp [hj]
theorem EZ {n:ByteArray} {E:List En} {S:List Sv} {i k:Nat} (h:k<S.length):(Bm n E S i k)[k]? = some (kq n E i S[k]):=by
 rw [wg (by omega)]
 simp [h]
theorem Bn {n:ByteArray} {E:List En} {S:List Sv} {i k:Nat} (h:k<S.length) {z:Sv} (hz:kq n E (i+1) S[k]=z):(Bm n E S i k).set k z=Bm n E S i (k+1):=by
 subst hz
 apply List.ext_getElem?
 intro j
 rw [List.getElem?_set,we,wg (by omega),wg (by omega)]
 by_cases hj:k=j
 ·subst hj
  simp [h]
 ·rw [if_neg hj]
  have:(j<k↔j<k+1):=by omega
  simp [this]
theorem E0 {n:ByteArray} {E:List En} {S:List Sv} {i k:Nat} (h:k<S.length) (hz:kq n E (i+1) S[k]=kq n E i S[k]):Bm n E S i k=Bm n E S i (k+1):=by
 rw [←Bn h rfl,hz]
 apply List.ext_getElem?
 intro j
 rw [List.getElem?_set]
 by_cases hj:k=j
 ·subst hj
  rw [EZ h,we]
  simp [h]
 ·rw [if_neg hj]
def Li (R:Lg×Bool):TV:=.tup [R.1.a,.one (.sc (.bool R.2))]
theorem J2 (g:Lg) (n:ByteArray) {R:Lg×Bool} (hR:lv g n=R):FSpec prog 194 [g.a,.one (.sc (.string n))] [] [] (Li R) []:=by
 refine bJ func194 ?_
 cases hV:n8 g with
 | false =>
  obtain rfl:R=(.zero,false):=by rw [←hR];simp [lv,hV]
  repeat' (first
   | refine af ?_ ?_
   | refine aa 9 rfl (cB [] (bZ g) ?_)
   | refine en ?_
   | exact ah|refine ae fun hb=>?_
   | (refine mu (qf []) ?_;exact ab))
 | true =>
  obtain ⟨h1,h2⟩:=gh hV
  have hat:=zQ hV
  obtain ⟨E,hE⟩:∃E,g.entries=E:=⟨_,rfl⟩
  obtain ⟨S,hS⟩:∃S,g.saves=S:=⟨_,rfl⟩
  repeat' (first
   | refine af ?_ ?_
   | refine aa 9 rfl (cB [] (bZ g) ?_)
   | refine en ?_
   | exact ah|refine ae fun hb=>?_)
  refine jJ 6 0 1000 112 iI rfl rfl rfl rfl ?_
  have hX:iu g n=⟨E.filter (oth n),S.map (kq n E E.length)⟩:=by
   unfold iu
   rw [←hE,←hS]
   congr 1
   refine List.map_congr_left fun x hx=>?_
   obtain ⟨k1,k2⟩:=hat x hx
   exact (Hs k1 k2).symm
  have hatS:∀x∈S,0≤x.at_∧x.at_≤E.length:=by rw [←hE,←hS];exact hat
  have hst:lv g n=bif decide ((E.filter (oth n)).length=E.length) then (.zero,false) else (⟨E.filter (oth n),S.map (kq n E E.length)⟩,true):=by
   unfold lv
   rw [hV,hX,hE]
   rfl
  rw [hst] at hR
  have hf72:∀i,((E.take i).filter (oth n)).length≤i:=fun i=>by
   have:=List.length_filter_le (oth n) (E.take i)
   rw [List.length_take] at this
   omega
  have hE72:E.length≤72:=by rw [←hE];exact h1
  have hS4:S.length≤4:=by rw [←hS];exact h2
  clear hat hst hX h1 hb
  refine ao (fun i=>i≤E.length) (fun i=>cy [2,4,6,13,1000,1001] [(1,.c (.sc (.string n))),(2,.c (.ptr 2 0)),(4,.c (.ptr 4 0)),(6,.c (.ptr 6 0)),(7,.i i)] [(2,.box 27 [.sl iI E,.sl iF S]),(4,.box 27 [.sc (.slice none 0 0),.sc (.slice none 0 0)]),(6,.box 27 [.own 1000,.own 1001]),(1000,.arr 112 iI ((E.take i).filter (oth n))),(1001,.arr 80 iF (S.map (kq n E i)))]) (fun i=>E.length-i) 0 (Nat.zero_le _) (by rw [show kq n E 0=id from funext (EV n E),List.map_id];subst hE hS;exact ap (qf [(1001,16)])) ?_
  rintro i hi
  try dsimp only at *
  by_cases hlt:i<E.length
  case neg =>
   obtain rfl:i=E.length:=by omega
   rw [List.take_length]
   by_cases hfl:(E.filter (oth n)).length=E.length
   ·obtain rfl:R=(.zero,false):=by rw [←hR,decide_eq_true hfl];rfl
    repeat' (first
     | refine af ?_ ?_
     | refine en ?_
     | exact ah|(refine ae fun hb=>?_;first|(exact absurd (Int.ofNat.inj hb) (by omega))|skip)
     | (refine mu (qf []) ?_;exact ab))
   ·obtain rfl:R=(⟨E.filter (oth n),S.map (kq n E E.length)⟩,true):=by rw [←hR,decide_eq_false hfl];rfl
    repeat' (first
     | refine af ?_ ?_
     | refine en ?_
     | exact ah|(refine ae fun hb=>?_;first|(exact absurd (Int.ofNat.inj hb) hfl)|skip)
     | (refine mu (qf []) ?_;exact ab))
  obtain ⟨e,he⟩:∃e,E[i]=e:=⟨_,rfl⟩
  have hge:E[i]? = some e:=by rw [List.getElem?_eq_getElem hlt,he]
  by_cases hnm:e.name.toList=n.toList
  case neg =>
   have ho:oth n e=true:=by simp [oth,aT,hnm]
   have hf1:=hf72 i
   repeat' (first
    | refine af ?_ ?_
    | (refine aa 8 rfl ?_;refine bc (ak rfl rfl (aI rfl rfl) (aO [e] rfl rfl rfl rfl) rfl aJ aJ) rfl rfl rfl ?_)
    | refine en ?_
    | exact ah|refine ae fun hb=>?_)
   refine ⟨i+1,by omega,by omega,?_⟩
   have e1:(E.take (i+1)).filter (oth n)=(E.take i).filter (oth n)++[e]:=by rw [List.take_succ_eq_append_getElem hlt,he,List.filter_append];simp [ho]
   have e2:S.map (kq n E (i+1))=S.map (kq n E i):=List.map_congr_left fun x _=>EW hlt (by rw [he];exact ho) x
   rw [e1,e2]
   exact ap (qf [(1000,41)])
  have ho:oth n e=false:=by simp [oth,aT,hnm]
  have ho':oth n E[i]=false:=by rw [he];exact ho
  have e1:(E.take (i+1)).filter (oth n)=(E.take i).filter (oth n):=by rw [List.take_succ_eq_append_getElem hlt,he,List.filter_append];simp [ho]
  repeat' (first
   | refine af ?_ ?_
   | refine en ?_
   | exact ah|refine ae fun hb=>?_)
  refine ao (fun k=>k≤S.length) (fun k=>cy [2,4,6,13,1000,1001] [(1,.c (.sc (.string n))),(2,.c (.ptr 2 0)),(4,.c (.ptr 4 0)),(6,.c (.ptr 6 0)),(7,.i i),(8,.i k)] [(2,.box 27 [.sl iI E,.sl iF S]),(4,.box 27 [.sc (.slice none 0 0),.sc (.slice none 0 0)]),(6,.box 27 [.own 1000,.own 1001]),(1000,.arr 112 iI ((E.take i).filter (oth n))),(1001,.arr 80 iF (Bm n E S i k))]) (fun k=>S.length-k) 0 (Nat.zero_le _) (by rw [EY];exact ap (qf [])) ?_
  rintro k hk
  try dsimp only at *
  have hdl:=we (n:=n) (E:=E) (S:=S) (i:=i) (k:=k)
  by_cases hlk:k<S.length
  case neg =>
   have hend:=Ht (n:=n) (E:=E) (S:=S) (i:=i) (k:=k) (by omega)
   rw [hend] at hdl ⊢
   clear hend
   repeat' (first
    | refine af ?_ ?_
    | refine en ?_
    | exact ah|refine ae fun hb=>?_)
   refine ⟨i+1,by omega,by omega,?_⟩
   rw [e1]
   exact ap (qf [])
  obtain ⟨x,hx⟩:∃x,S[k]=x:=⟨_,rfl⟩
  have hgx:S[k]? = some x:=by rw [List.getElem?_eq_getElem hlk,hx]
  have hgd:=EZ (n:=n) (E:=E) (i:=i) hlk
  rw [hx] at hgd
  obtain ⟨k1,k2⟩:=hatS x (hx▸List.getElem_mem hlk)
  have hyb:=zX (n:=n) (E:=E) (i:=i) k1
  obtain ⟨y,hy⟩:∃y,kq n E i x=y:=⟨_,rfl⟩
  by_cases hgt:(i:Int)<x.at_
  ·have hz:kq n E (i+1) x=⟨x.label,y.at_-1⟩:=by rw [EX hlt ho' hgt,hy]
   have hyl:y.label=x.label:=by rw [←hy];rfl
   rw [hy] at hgd hyb
   have hset:=Bn (i:=i) (n:=n) (E:=E) hlk (z:=⟨y.label,y.at_-1⟩) (by rw [hx,hz,hyl])
   repeat' (first
    | refine af ?_ ?_
    | refine en ?_
    | (refine aa 4 rfl ?_;refine bW (aL (z:=⟨y.label,y.at_-1⟩) rfl rfl rfl rfl hgd rfl rfl rfl rfl (Nat.le_of_ble_eq_true rfl) rfl rfl) rfl rfl rfl ?_)
    | exact ah|refine ae fun hb=>?_)
   refine ⟨k+1,by omega,by omega,?_⟩
   rw [←hset]
   exact ap (qf [])
  ·have hsm:=E0 (n:=n) (E:=E) (i:=i) hlk (by rw [hx];exact Hr (by omega))
   repeat' (first
    | refine af ?_ ?_
    | refine en ?_
    | exact ah|refine ae fun hb=>?_)
   refine ⟨k+1,by omega,by omega,?_⟩
   rw [←hsm]
   exact ap (qf [])
def IS (w:Wk) (i:Nat) (n:ByteArray):Prop:=i<w.c.procs.length∧w.ev.length≤900000∧((w.pc i).waiting=false→ay (w.pc i).led.entries n≠⟨0,0⟩→StOk (qR w i n).c.procs.length (qR w i n))
theorem zY (w:Wk) (i:Nat) (n:ByteArray):ed w i n=bif (w.pc i).waiting then (w,14) else bif decide (ay (w.pc i).led.entries n=⟨0,0⟩) then (w,10) else (aS (qR w i n).c.procs.length (qR w i n),0):=rfl
theorem E1 (d:Nat) (w:Wk) (i:Nat) (n:ByteArray) (hok:IS w i n) {Z:Wk×Int} (hZ:ed w i n=Z):FSpec prog 133 [j6,mb i,.one (.sc (.string n))] (HI d w) [3,4] (.i Z.2) (HO d Z.1):=by
 refine bJ func133 ?_
 obtain ⟨hi,hev,hst⟩:=hok
 obtain ⟨x,hx⟩:∃x,w.c.procs[i]? = some x:=⟨_,List.getElem?_eq_getElem hi⟩
 have hpc:=j7 hx
 rw [zY] at hZ
 unfold qR at hZ hst
 rw [hpc] at hZ hst
 cases hw:x.waiting with
 | true =>
  obtain rfl:Z=(w,14):=by rw [←hZ,hw];rfl
  repeat' (first
   | refine af ?_ ?_
   | refine en ?_
   | exact ah|(refine ae fun hb=>?_;first|(cases hw.symm.trans hb;done)|skip)
   | (refine aP (qf [(3,1),(4,2)]) ?_;exact ab))
 | false =>
  obtain ⟨l,hl⟩:∃l,ay x.led.entries n=l:=⟨_,rfl⟩
  have kL:=iY x.led.entries n
  rw [hw,hl,cond_false] at hZ
  rw [hl] at hst kL
  by_cases h0:l=⟨0,0⟩
  ·obtain rfl:Z=(w,10):=by rw [←hZ,decide_eq_true h0];rfl
   repeat' (first
    | refine af ?_ ?_
    | refine aa 9 rfl (cB [] (kL) ?_)
    | refine en ?_
    | exact ah|(refine ae fun hb=>?_;first|(cases hw.symm.trans hb;done)|(exact absurd h0 hb)|skip)
    | (refine aP (qf [(3,1),(4,2)]) ?_;exact ab))
  ·have hs:=hst hw h0
   rw [decide_eq_false h0,cond_false] at hZ
   obtain ⟨R,hR⟩:∃R,cl w.c.queues x.proc ⟨n,⟨0,0⟩⟩=R:=⟨_,rfl⟩
   have hll:=fZ w.c.queues x.proc ⟨n,⟨0,0⟩⟩
   rw [hR] at hll
   obtain ⟨D0,hD⟩:∃D0,lv x.led n=D0:=⟨_,rfl⟩
   unfold eY at hZ hs
   rw [hR,hD] at hZ hs
   have hvi:i<((w.take R.1 R.2.1).setP i { x with led:=D0.1 }).c.procs.length:=by rw [gI];exact hi
   have hgt:(w.take R.1 R.2.1).c.procs.length=w.c.procs.length:=rfl
   obtain ⟨F,hF⟩:∃F,aS (bb ((w.take R.1 R.2.1).setP i { x with led:=D0.1 }) i).c.procs.length (bb ((w.take R.1 R.2.1).setP i { x with led:=D0.1 }) i)=F:=⟨_,rfl⟩
   obtain rfl:Z=(F,0):=by rw [←hZ];exact congrArg (fun z=>(z,(0:Int))) hF
   have kS:=mj d _ _ hs
   rw [show aS (bb ((w.take R.1 R.2.1).setP i { x with led:=D0.1 }) i).c.procs.length (bb ((w.take R.1 R.2.1).setP i { x with led:=D0.1 }) i)=F from hF] at kS
   clear hZ hst hF
   repeat' (first
    | refine af ?_ ?_
    | (refine aa 9 rfl ?_;first
     | (refine cB [] (kL) ?_)
     | (refine cC [] (q9 w.c.queues x.proc ⟨n,⟨0,0⟩⟩ hR) ?_)
     | (refine cH (qf [(3,1003),(4,1004)]) (qu d w R.1 R.2.1 (by omega)) ?_)
     | (refine cC [] (J2 x.led n hD) ?_)
     | (refine cH (qf [(1,1003),(2,1004),(3,1005),(4,1006)]) (mW d ((w.take R.1 R.2.1).setP i { x with led:=D0.1 }) i hvi) ?_)
     | (refine cH (qf [(1,1005),(2,1006),(3,1007),(4,1008)]) (kS) ?_))
    | refine en ?_
    | (refine aa 4 rfl ?_;refine bW (aL (z:={ x with led:=D0.1 }) rfl rfl rfl rfl hx rfl rfl rfl rfl (Nat.le_of_ble_eq_true rfl) rfl rfl) rfl rfl rfl ?_)
    | exact ah|(refine ae fun hb=>?_;first|(cases hw.symm.trans hb;done)|(exact absurd hb h0)|skip)
    | (refine aP (qf [(3,1007),(4,1008)]) ?_;exact ab))
   all_goals fail "stands"
theorem qE (w:Wk) (x:Pc) (n:ByteArray):(bL w x n).c.procs=w.c.procs:=by
 unfold bL cO
 have h1:(iy w x.proc n).c.procs=w.c.procs:=by unfold iy;cases (ai (bd w.c.queues n) x.proc).isSome <;> rfl
 cases decide (aj (bd (iy w x.proc n).c.queues n).holds x.proc=ay x.led.entries n)
 ·exact h1
 ·exact h1
theorem dm (x:Pc):∀(l:List Tm) (w:Wk),(eG x l w).c.procs=w.c.procs
 | [],_=>rfl
 | a :: l,w=>(dm x l (bL w x a.name)).trans (qE w x a.name)
def E2 (p:Pr):List Tm→Wk→Prop
 | [],_=>True
 | a :: l,w=>aU w.c.queues a.name=true∧w.ev.length≤900000∧E2 p l (cO w p a.name a.am)
theorem ym (w:Wk) (p:Pr) (n:ByteArray) (l:Am):(cO w p n l).c.procs=w.c.procs:=by
 unfold cO
 cases decide (aj (bd w.c.queues n).holds p=l) <;> rfl
theorem mD (p:Pr):∀(l:List Tm) (w:Wk),(cf p l w).c.procs=w.c.procs
 | [],_=>rfl
 | a :: l,w=>(mD p l (cO w p a.name a.am)).trans (ym w p a.name a.am)
def IT (w:Wk) (i:Nat) (n:Int):Prop:=i<w.c.procs.length∧((bU (w.pc i).led n).2.2=0→((w.pc i).waiting=true→CK (w.pc i) (cY (w.pc i).req.expr) w)∧E2 (w.pc i).proc (bU (w.pc i).led n).2.1 (ya w i n)∧StOk (pE w i n).c.procs.length (pE w i n))
theorem yn (w:Wk) (i:Nat) (n:Int):dc w i n=bif !decide ((bU (w.pc i).led n).2.2=0) then (w,(bU (w.pc i).led n).2.2) else (aS (pE w i n).c.procs.length (pE w i n),0):=rfl
theorem Hu {w:Wk} {i:Nat} {x:Pc} (hx:w.c.procs[i]? = some x):∃y,(pD w i).c.procs[i]? = some y∧y.proc=x.proc:=by
 have hi:=(List.getElem?_eq_some_iff.1 hx).1
 unfold pD
 cases (w.pc i).waiting with
 | false=>exact ⟨x,hx,rfl⟩
 | true =>
  refine ⟨{ (eG (w.pc i) (cY (w.pc i).req.expr) w).pc i with waiting:=false,req:=Rq.zero,since:=0 },?_,?_⟩
  ·show (List.set _ _ _)[i]? = _
   rw [List.getElem?_set_self (by rw [dm];exact hi)]
  ·show ((eG (w.pc i) (cY (w.pc i).req.expr) w).pc i).proc=x.proc
   unfold Wk.pc
   rw [dm,List.getD_eq_getElem?_getD,hx]
   rfl
theorem E3 (w:Wk) (i:Nat):(pD w i).c.procs.length=w.c.procs.length:=by
 unfold pD
 cases (w.pc i).waiting with
 | false=>rfl
 | true=>show (az w i).c.procs.length=_;unfold az eC;rw [gI,dm]
theorem CL (g:Lg) (n:Int):(bU g n).2.1.length≤72:=by
 unfold bU
 cases hV:n8 g with
 | false=>simp
 | true =>
  have h1:=(gh hV).1
  rw [Bool.not_true,cond_false]
  cases (!decide (n=0) && decide (aE n 0 g.saves<0)) with
  | true=>simp
  | false =>
   rw [cond_false]
   simp only [List.length_map]
   have:=gF (g.entries.drop (bi g n).entries.length) []
   simp at this
   unfold bp
   omega
theorem CM (d:Nat) (w:Wk) (i:Nat) (n:Int) (hok:IT w i n) {Z:Wk×Int} (hZ:dc w i n=Z):FSpec prog 135 [j6,mb i,mb n] (HI d w) [3,4] (.i Z.2) (HO d Z.1):=by
 refine bJ func135 ?_
 obtain ⟨hi,hst⟩:=hok
 obtain ⟨x,hx⟩:∃x,w.c.procs[i]? = some x:=⟨_,List.getElem?_eq_getElem hi⟩
 have hpc:=j7 hx
 rw [yn] at hZ
 obtain ⟨y,hy,hyp⟩:=Hu hx
 have hyc:=j7 hy
 have hal:=E3 w i
 unfold pE at hZ hst
 unfold ya at hZ hst
 rw [hyc,hpc] at hZ hst
 obtain ⟨U,hU⟩:∃U,bU x.led n=U:=⟨_,rfl⟩
 rw [hU] at hZ hst
 have kU:=IL x.led n hU
 by_cases h0:U.2.2=0
 case neg =>
  obtain rfl:Z=(w,U.2.2):=by rw [←hZ,decide_eq_false h0];rfl
  repeat' (first
   | refine af ?_ ?_
   | refine aa 9 rfl (cC [] (kU) ?_)
   | refine en ?_
   | exact ah|(refine ae fun hb=>?_;first|(exact absurd hb h0)|skip)
   | (refine aP (qf [(3,1),(4,2)]) ?_;exact ab))
 obtain ⟨hdr,hlw,hs⟩:=hst h0
 rw [decide_eq_true h0] at hZ
 obtain ⟨A,hA⟩:∃A,pD w i=A:=⟨_,rfl⟩
 rw [hA] at hZ hlw hs hy hal
 clear hst hyc
 have kS:=mj d _ _ hs
 obtain ⟨F,hF⟩:∃F,aS (bb (cf x.proc U.2.1 (A.setP i { y with led:=U.1 })) i).c.procs.length (bb (cf x.proc U.2.1 (A.setP i { y with led:=U.1 })) i)=F:=⟨_,rfl⟩
 obtain rfl:Z=(F,0):=by rw [←hZ];exact congrArg (fun z=>(z,(0:Int))) hF
 rw [hF] at kS
 clear hZ hF hs
 obtain ⟨B,hB⟩:∃B,A.setP i { y with led:=U.1 } = B:=⟨_,rfl⟩
 rw [hB] at hlw kS
 obtain ⟨W,hW⟩:∃W,cf x.proc U.2.1 B=W:=⟨_,rfl⟩
 rw [hW] at kS
 have hWl:i<W.c.procs.length:=by rw [←hW,mD,←hB,gI,hal];exact hi
 have hyi:i<A.c.procs.length:=by rw [hal];exact hi
 have hUl:U.2.1.length≤72:=by rw [←hU];exact CL x.led n
 obtain ⟨L,hL⟩:∃L,U.2.1=L:=⟨_,rfl⟩
 rw [hL] at hUl hlw hW
 rw [←hyp] at hlw hW
 obtain ⟨Q,hQ⟩:∃Q,y.proc=Q:=⟨_,rfl⟩
 rw [hQ] at hlw hW
 cases hw:x.waiting
 case' true =>
  obtain rfl:az w i=A:=by rw [←hA];unfold pD;rw [hpc,hw];rfl
  have kW:=pL d w i hi (by rw [hpc];exact hdr hw) (by rw [dm];exact hi)
  repeat' (first
   | refine af ?_ ?_
   | (refine aa 9 rfl ?_;first
    | (refine cC [] (kU) ?_)
    | (refine cH (qf [(3,1003),(4,1004)]) (kW) ?_))
   | refine en ?_
   | (refine aa 4 rfl ?_;refine bW (aL (z:={ y with led:=U.1 }) rfl rfl rfl rfl hy rfl rfl rfl rfl (Nat.le_of_ble_eq_true rfl) rfl rfl) rfl rfl rfl ?_)
   | exact ah|(refine ae fun hb=>?_;first|(cases hw.symm.trans hb;done)|(exact absurd h0 hb)|skip))
  refine ao (fun y:Nat×Wk=>y.1≤L.length∧E2 Q (L.drop y.1) y.2∧cf Q (L.drop y.1) y.2=W) (fun y=>cy [0,1,2,7,10,1010,1011] [(0,.v j6),(1,.v (mb i)),(8,.c (.sl cL L)),(10,.c (.ptr 10 0)),(11,.i y.1)] [(0,.box 169 (Db y.2 1010 1011)),(10,.box 23 [.sc (.int .i64 Q.site),.sc (.int .i64 Q.inc),.sc (.int .i64 Q.num)]),(1010,.arr 38 (sa d) y.2.c.procs),(1011,.arr 296 qq y.2.ev)]) (fun y=>L.length-y.1) (0,B) ⟨Nat.zero_le _,hlw,hW⟩ (by subst hB hL hQ;exact ap (qf [(1010,1003),(1011,1004)])) ?_
 case' false =>
  obtain rfl:w=A:=by rw [←hA];unfold pD;rw [hpc,hw];rfl
  have hxy:y=x:=by rw [hx] at hy;exact (Option.some.inj hy).symm
  subst hxy
  repeat' (first
   | refine af ?_ ?_
   | refine aa 9 rfl (cC [] (kU) ?_)
   | refine en ?_
   | (refine aa 4 rfl ?_;refine bW (aL (z:={ y with led:=U.1 }) rfl rfl rfl rfl hy rfl rfl rfl rfl (Nat.le_of_ble_eq_true rfl) rfl rfl) rfl rfl rfl ?_)
   | exact ah|(refine ae fun hb=>?_;first|(cases hw.symm.trans hb;done)|(exact absurd h0 hb)|skip))
  refine ao (fun y:Nat×Wk=>y.1≤L.length∧E2 Q (L.drop y.1) y.2∧cf Q (L.drop y.1) y.2=W) (fun y=>cy [0,1,2,7,10,1010,1011] [(0,.v j6),(1,.v (mb i)),(8,.c (.sl cL L)),(10,.c (.ptr 10 0)),(11,.i y.1)] [(0,.box 169 (Db y.2 1010 1011)),(10,.box 23 [.sc (.int .i64 Q.site),.sc (.int .i64 Q.inc),.sc (.int .i64 Q.num)]),(1010,.arr 38 (sa d) y.2.c.procs),(1011,.arr 296 qq y.2.ev)]) (fun y=>L.length-y.1) (0,B) ⟨Nat.zero_le _,hlw,hW⟩ (by subst hB hL hQ;exact ap (qf [(1010,1),(1011,2)])) ?_
 all_goals
  clear kU hU hpc hx hy hB hA hal hdr hyi hw
  try clear kW
  rintro ⟨k,v⟩ ⟨hk,hv,hs⟩
  dsimp only at *
  by_cases hlt:k<L.length
  case neg =>
   obtain rfl:v=W:=by rw [←hs,List.drop_eq_nil_of_le (by omega)];rfl
   repeat' (first
    | refine af ?_ ?_
    | (refine aa 9 rfl ?_;first
     | (refine cH (qf [(1,1010),(2,1011),(3,1020),(4,1021)]) (mW d v i hWl) ?_)
     | (refine cH (qf [(1,1020),(2,1021),(3,1030),(4,1031)]) (kS) ?_))
    | refine en ?_
    | exact ah|refine ae fun hb=>?_
    | (refine aP (qf [(3,1030),(4,1031)]) ?_;exact ab))
  rw [List.drop_eq_getElem_cons hlt] at hv hs
  obtain ⟨a,ha⟩:∃a,L[k]=a:=⟨_,rfl⟩
  have hga:L[k]? = some a:=by rw [List.getElem?_eq_getElem hlt,ha]
  rw [ha] at hv hs
  obtain ⟨v1,v2,v3⟩:=hv
  obtain ⟨j,hj,hFj,hqj⟩:=wd v1
  obtain ⟨h,hh⟩:∃h,aj v.c.queues[j].holds Q=h:=⟨_,rfl⟩
  have kH:=eQ v.c.queues[j] Q
  rw [hh] at kH
  have hs:cf Q (L.drop (k+1)) (cO v Q a.name a.am)=W:=hs
  have hbe:cO v Q a.name a.am=bif decide (h=a.am) then v else eY v Q ⟨a.name,a.am⟩:=by unfold cO;rw [hqj,hh]
  rw [hbe] at v3 hs
  by_cases hhl:h=a.am
  ·rw [decide_eq_true hhl,cond_true] at v3 hs
   repeat' (first
    | refine af ?_ ?_
    | (refine aa 9 rfl ?_;first
     | (refine cB [] (cV v.c.queues a.name hFj) ?_)
     | (refine cB [] (kH) ?_))
    | refine en ?_
    | exact ah|refine ae fun hb=>?_)
   refine ⟨(k+1,v),⟨by dsimp only;omega,v3,hs⟩,by dsimp only;omega,?_⟩
   exact ap (qf [])
  ·rw [decide_eq_false hhl,cond_false] at v3 hs
   obtain ⟨R,hR⟩:∃R,cl v.c.queues Q a=R:=⟨_,rfl⟩
   have hll:=fZ v.c.queues Q a
   rw [hR] at hll
   have hlw:eY v Q ⟨a.name,a.am⟩=v.take R.1 R.2.1:=by rw [←hR];rfl
   rw [hlw] at v3 hs
   repeat' (first
    | refine af ?_ ?_
    | (refine aa 9 rfl ?_;first
     | (refine cB [] (cV v.c.queues a.name hFj) ?_)
     | (refine cB [] (kH) ?_)
     | (refine cC [] (q9 v.c.queues Q a hR) ?_)
     | (refine cH (qf [(1,1010),(2,1011),(3,1020),(4,1021)]) (qu d v R.1 R.2.1 (by omega)) ?_))
    | refine en ?_
    | exact ah|refine ae fun hb=>?_)
   refine ⟨(k+1,v.take R.1 R.2.1),⟨by dsimp only;omega,v3,hs⟩,by dsimp only;omega,?_⟩
   exact ap (qf [(1010,1020),(1011,1021)])
theorem wh (w:Wk) (i:Nat):(az w i).c.procs.length=w.c.procs.length:=by unfold az eC;rw [gI,dm]
def IU (w:Wk):Wk:=bb (az (w.note 4 (w.pc (eZ w).toNat).proc) (eZ w).toNat) (eZ w).toNat
def TkOk:Nat→Wk→Prop
 | 0,w=>w.c.procs.length≤100000∧Lh w.c.procs∧eZ w<0
 | n+1,w=>w.c.procs.length≤100000∧Lh w.c.procs∧(0≤eZ w→w.ev.length≤900000∧(eZ w).toNat<w.c.procs.length∧
   CK (w.pc (eZ w).toNat) (cY (w.pc (eZ w).toNat).req.expr) (w.note 4 (w.pc (eZ w).toNat).proc)∧StOk (IU w).c.procs.length (IU w)∧TkOk n (aS (IU w).c.procs.length (IU w)))
theorem TkOk.len {n:Nat} {v:Wk} (h:TkOk n v):v.c.procs.length≤100000∧Lh v.c.procs:=by cases n <;> exact ⟨h.1,h.2.1⟩
theorem sN (n:Nat) (w:Wk):iP (n+1) w=bif decide (eZ w<0) then w else iP n (aS (IU w).c.procs.length (IU w)):=rfl
def Kw (w:Wk) (n:Int):Wk:=⟨{ w.c with now:=w.c.now+n },w.ev⟩
theorem Hw (w:Wk) (n:Int):j0 w n=bif !(decide (0≤n) && decide (n≤1000)) then (w,1) else bif decide (1073741824-n<w.c.now) then (w,16) else (iP w.c.procs.length (Kw w n),0):=rfl
theorem Lj (d:Nat) (w:Wk) (n:Int) (h0 : -1000000000000≤w.c.now) (hok:0≤n→n≤1000→w.c.now≤1073741824-n→TkOk w.c.procs.length (Kw w n)) {Z:Wk×Int} (hZ:j0 w n=Z):FSpec prog 128 [j6,mb n] (HI d w) [3,4] (.i Z.2) (HO d Z.1):=by
 refine bJ func128 ?_
 rw [Hw] at hZ
 by_cases h1:0≤n∧n≤1000
 case neg =>
  obtain rfl:Z=(w,1):=by
   rw [←hZ,show (decide (0≤n) && decide (n≤1000))=false by rw [Bool.and_eq_false_iff];simp;omega]
   rfl
  repeat' (first
   | refine af ?_ ?_
   | refine en ?_
   | exact ah|refine ae fun hb=>?_
   | (refine aP (qf [(3,1),(4,2)]) ?_;exact ab))
 obtain ⟨h1,h2⟩:=h1
 rw [decide_eq_true h1,decide_eq_true h2] at hZ
 by_cases h3:1073741824-n<w.c.now
 ·obtain rfl:Z=(w,16):=by rw [←hZ,decide_eq_true h3];rfl
  repeat' (first
   | refine af ?_ ?_
   | refine en ?_
   | exact ah|refine ae fun hb=>?_
   | (refine aP (qf [(3,1),(4,2)]) ?_;exact ab))
 ·obtain ⟨V,hV⟩:∃V,Kw w n=V:=⟨_,rfl⟩
  have hk:=hok h1 h2 (by omega)
  obtain ⟨W,hW⟩:∃W,iP w.c.procs.length (Kw w n)=W:=⟨_,rfl⟩
  obtain rfl:Z=(W,0):=by rw [←hZ,decide_eq_false h3,hW];rfl
  obtain ⟨k1,k2⟩:=hk.len
  repeat' (first
   | refine af ?_ ?_
   | refine aa 9 rfl (cH (qf [(1,1),(2,2),(3,1003),(4,1004)]) (yk d (Kw w n) k1 k2) ?_)
   | refine en ?_
   | exact ah|refine ae fun hb=>?_)
  refine ao (fun y:Nat×Wk=>TkOk y.1 y.2∧iP y.1 y.2=W) (fun y=>cy [0,1,2,1010,1011] [(0,.v j6),(5,.i (eZ y.2))] [(0,.box 169 (Db y.2 1010 1011)),(1010,.arr 38 (sa d) y.2.c.procs),(1011,.arr 296 qq y.2.ev)]) (fun y=>y.1) (w.c.procs.length,Kw w n) ⟨hk,hW⟩ (by exact ap (qf [(1010,1003),(1011,1004)])) ?_
  clear hk hW hok hV k1 k2 hZ
  rintro ⟨m,v⟩ ⟨hv,hs⟩
  dsimp only at *
  obtain ⟨e,he⟩:∃e,eZ v=e:=⟨_,rfl⟩
  by_cases hneg:e<0
  ·obtain rfl:v=W:=by
    rw [←hs]
    cases m with
    | zero=>rfl
    | succ m=>rw [sN,he,decide_eq_true hneg];rfl
   rw [he]
   repeat' (first
    | refine af ?_ ?_
    | refine en ?_
    | exact ah|refine ae fun hb=>?_
    | (refine aP (qf [(3,1010),(4,1011)]) ?_;exact ab))
  ·cases m with
   | zero=>exact absurd (he▸hv.2.2) hneg
   | succ m =>
    obtain ⟨_,_,hall⟩:=hv
    rw [sN,he,decide_eq_false hneg,cond_false] at hs
    unfold IU at hall hs
    rw [he] at hall hs ⊢
    obtain ⟨u1,u2,u3,u4,u5⟩:=hall (by omega)
    obtain ⟨i,hi⟩:∃i:Nat,e=(i:Int):=⟨e.toNat,by omega⟩
    subst hi
    simp only [Int.toNat_natCast] at u2 u3 u4 u5 hs
    obtain ⟨x,hx⟩:∃x,v.c.procs[i]? = some x:=⟨_,List.getElem?_eq_getElem u2⟩
    have hpc:=j7 hx
    rw [hpc] at u3 u4 u5 hs
    obtain ⟨N0,hN⟩:∃N0,v.note 4 x.proc=N0:=⟨_,rfl⟩
    have kN:=EA d v 4 x.proc (by omega)
    have hNp:N0.c.procs=v.c.procs:=by rw [←hN];rfl
    rw [hN] at u3 u4 u5 hs kN
    have hNc:N0.pc i=x:=by unfold Wk.pc;rw [hNp];exact hpc
    have kW:=pL d N0 i (by rw [hNp];exact u2) (by rw [hNc];exact u3) (by rw [dm,hNp];exact u2)
    have kX:=mW d (az N0 i) i (by rw [wh,hNp];exact u2)
    obtain ⟨y,hy⟩:∃y,bb (az N0 i) i=y:=⟨_,rfl⟩
    rw [hy] at u4 u5 hs kX
    have kS:=mj d y _ u4
    obtain ⟨F,hF⟩:∃F,aS y.c.procs.length y=F:=⟨_,rfl⟩
    rw [hF] at kS u5 hs
    obtain ⟨f1,f2⟩:=u5.len
    clear hy hF u4 u3 hNc hall hN hNp
    repeat' (first
     | refine af ?_ ?_
     | (refine aa 9 rfl ?_;first
      | (refine cH (qf [(1,1010),(2,1011),(3,1020),(4,1021)]) (kN) ?_)
      | (refine cH (qf [(1,1020),(2,1021),(3,1030),(4,1031)]) (kW) ?_)
      | (refine cH (qf [(1,1030),(2,1031),(3,1040),(4,1041)]) (kX) ?_)
      | (refine cH (qf [(1,1040),(2,1041),(3,1050),(4,1051)]) (kS) ?_)
      | (refine cH (qf [(1,1050),(2,1051),(3,1060),(4,1061)]) (yk d F f1 f2) ?_))
     | refine en ?_
     | exact ah|refine ae fun hb=>?_)
    refine ⟨(m,F),⟨u5,hs⟩,by dsimp only;omega,?_⟩
    exact ap (qf [(1010,1060),(1011,1061)])
structure CatOk (l:List Rs):Prop where
 len:l.length≤8
 ok:∀x∈l,mI x=true
 asc:∀i (h:i+1<l.length),fD (l[i]'(by omega)).name l[i+1].name=true
theorem J3 {t:List Qu} (h:eO t=true):CatOk (gN t):=by
 have hp:=cr h
 refine ⟨by simp [gN];exact hp.1,fun x hx=>?_,fun i hi=>?_⟩
 ·obtain ⟨q,hq,rfl⟩:=List.mem_map.1 hx
  exact (aH (dK h hq)).res
 ·have:=(nX hp.2.1).1
  have hi':i+1<t.length:=by simpa [gN] using hi
  have h2:=(List.pairwise_iff_getElem.1 this) i (i+1) (by simp [gz];omega) (by simp [gz];omega) (by omega)
  simpa [gz,gN] using h2
theorem Lk {a b:ByteArray} (h:fD a b=true):(!Op.bytesLess a.toList b.toList)=false:=by
 unfold fD at h
 rw [h]
 rfl
theorem ml (l:List Rs) (hc:CatOk l):FSpec prog 98 [.one (.sl fJ l)] [] [] (.b true) []:=by
 refine bJ func98 ?_
 have h8:=hc.len
 repeat' (first
  | refine af ?_ ?_
  | refine en ?_
  | exact ah|refine ae fun hb=>?_)
 refine ao (fun i=>i≤l.length) (fun i=>cy [] [(0,.c (.sl fJ l)),(3,.i i)] []) (fun i=>l.length-i) 0 (Nat.zero_le _) (by exact ap (qf [])) ?_
 intro i hi
 by_cases hlt:i<l.length
 ·have hv:=hc.ok _ (List.getElem_mem hlt)
  rcases Nat.eq_zero_or_pos i with h0|h0
  ·subst h0
   repeat' (first
    | refine af ?_ ?_
    | refine aa 9 rfl (cB [] (IJ (l[0]'(by omega))) ?_)
    | refine en ?_
    | exact ah|refine ae fun hb=>?_)
   refine ⟨0+1,by omega,by omega,?_⟩
   exact ap (qf [])
  ·obtain ⟨y,hy⟩:∃y,l[((i:Int)-1).toNat]? = some y:=⟨_,List.getElem?_eq_getElem (by omega)⟩
   have hlt2:(!Op.bytesLess y.name.toList l[i].name.toList)=false:=by
    refine Lk ?_
    have:=hc.asc (i-1) (by omega)
    rw [show ((i:Int)-1).toNat=i-1 by omega,List.getElem?_eq_getElem (by omega)] at hy
    rw [Option.some.inj hy] at this
    simpa [show i-1+1=i by omega] using this
   repeat' (first
    | refine af ?_ ?_
    | refine aa 9 rfl (cB [] (IJ l[i]) ?_)
    | refine en ?_
    | exact ah|(refine ae fun hb=>?_;first|(exact Bool.noConfusion ((congrArg (!·) hb).symm.trans hlt2))|skip))
   refine ⟨i+1,by omega,by omega,?_⟩
   exact ap (qf [])
 ·skip
  repeat' (first
   | refine af ?_ ?_
   | refine en ?_
   | exact ah|refine ae fun hb=>?_
   | (refine aP (qf []) ?_;exact ab))
def mE (n:ByteArray) (t:List Qu):Rs:=bif aU t n then (bd t n).res else ⟨⟨#[]⟩,0,0,0⟩
theorem sO {n:ByteArray}:∀{t:List Qu} {k:Nat},bw n k t = -1∨∃i,∃h:i<t.length,bw n k t=((k+i:Nat):Int)∧t[i].res.name.toList == n.toList∧∀j (hj:j<i),(t[j].res.name.toList == n.toList)=false
 | [],_=>.inl rfl
 | q :: l,k=>by
  unfold bw
  cases hq:q.res.name.toList == n.toList with
  | true=>exact .inr ⟨0,by simp,by simp,by simpa using hq,fun j hj=>absurd hj (Nat.not_lt_zero _)⟩
  | false =>
   rcases sO (n:=n) (t:=l) (k:=k+1) with h|⟨i,hi,h1,h2,h3⟩
   ·exact .inl (by simpa using h)
   ·refine .inr ⟨i+1,by simpa using hi,by rw [cond_false,h1];congr 1;omega,by simpa using h2,fun j hj=>?_⟩
    cases j with
    | zero=>simpa using hq
    | succ j=>simpa using h3 j (by omega)
theorem uw {n:ByteArray}:∀{t:List Qu} {k:Nat},bw n k t<0→∀j (hj:j<t.length),(t[j].res.name.toList == n.toList)=false
 | [],_,_,j,hj=>by simp at hj
 | q :: l,k,h,j,hj=>by
  unfold bw at h
  cases hq:q.res.name.toList == n.toList with
  | true=>rw [hq,cond_true] at h;omega
  | false =>
   rw [hq,cond_false] at h
   cases j with
   | zero=>simpa using hq
   | succ j=>simpa using uw h j (by simpa using hj)
theorem E4 (t:List Qu) (n:ByteArray):FSpec prog 243 [.one (.sl fJ (gN t)),.one (.sc (.string n))] [] [] (.tup [(mE n t).a,.one (.sc (.bool (aU t n)))]) []:=by
 refine bJ func243 ?_
 obtain ⟨L,hL⟩:∃L,gN t=L:=⟨_,rfl⟩
 rw [hL]
 have hLl:L.length=t.length:=by rw [←hL];simp [gN]
 have hLg:∀i (h:i<L.length),L[i]=(t[i]'(by omega)).res:=by intro i h;simp [←hL,gN]
 refine bY (fun c ρ a w hr=>gc (t:=0) hr rfl) (fun hl0=>?_)
 by_cases hf:bw n 0 t<0
 ·have hall:=uw hf
  have hh:aU t n=false:=by simp [aU];omega
  rw [show mE n t=⟨⟨#[]⟩,0,0,0⟩ by simp [mE,hh],hh]
  repeat' (first
   | refine af ?_ ?_
   | refine en ?_
   | exact ah|refine ae fun hb=>?_)
  refine ao (fun i=>i≤L.length) (fun i=>cy [4] [(0,.c (.sl fJ L)),(1,.c (.sc (.string n))),(4,.c (.ptr 4 0)),(6,.i i)] [(4,.box 159 [.sc (.string ⟨#[]⟩),.sc (.int .i64 0),.sc (.int .i64 0),.sc (.int .i64 0)])]) (fun i=>L.length-i) 0 (Nat.zero_le _) (by exact ap (qf [])) ?_
  intro i hi
  by_cases hlt:i<L.length
  ·have h1:=hall i (by omega)
   rw [←congrArg Rs.name (hLg i hlt)] at h1
   repeat' (first
    | refine af ?_ ?_
    | refine en ?_
    | exact ah|(refine ae fun hb=>?_;first|(exact Bool.noConfusion (((beq_iff_eq.2 hb).symm.trans h1):true=false))|(exact hb.elim)|skip))
   refine ⟨i+1,by omega,by omega,?_⟩
   exact ap (qf [])
  ·skip
   repeat' (first
    | refine af ?_ ?_
    | refine en ?_
    | exact ah|refine ae fun hb=>?_
    | (refine mu (qf []) ?_;exact ab))
 ·rcases sO (n:=n) (t:=t) (k:=0) with h|⟨k,hk,hF,h2,h3⟩
  ·omega
  have hh:aU t n=true:=by simp [aU];omega
  have hq:bd t n=t[k]:=by
   obtain ⟨j,hj,hF2,hq,_⟩:=gg hf
   have:j=k:=by rw [hF] at hF2;omega
   subst this
   exact hq
  rw [show mE n t=t[k].res by simp [mE,hh,hq],hh]
  repeat' (first
   | refine af ?_ ?_
   | refine en ?_
   | exact ah|refine ae fun hb=>?_)
  refine ao (fun i=>i≤k) (fun i=>cy [4] [(0,.c (.sl fJ L)),(1,.c (.sc (.string n))),(4,.c (.ptr 4 0)),(6,.i i)] [(4,.box 159 [.sc (.string ⟨#[]⟩),.sc (.int .i64 0),.sc (.int .i64 0),.sc (.int .i64 0)])]) (fun i=>L.length-i) 0 (Nat.zero_le _) (by exact ap (qf [])) ?_
  intro i hi
  have hlt:i<L.length:=by omega
  by_cases hik:i=k
  ·subst hik
   have h1:=h2
   rw [←hLg i hlt] at h1 ⊢
   rw [beq_iff_eq] at h1
   repeat' (first
    | refine af ?_ ?_
    | refine en ?_
    | exact ah|refine ae fun hb=>?_
    | (refine mu (qf []) ?_;exact ab))
  ·have h1:=h3 i (by omega)
   rw [←congrArg Rs.name (hLg i hlt)] at h1
   repeat' (first
    | refine af ?_ ?_
    | refine en ?_
    | exact ah|(refine ae fun hb=>?_;first|(exact Bool.noConfusion (((beq_iff_eq.2 hb).symm.trans h1):true=false))|skip))
   refine ⟨i+1,by omega,by omega,?_⟩
   exact ap (qf [])
def qT (t:List Qu) (a:Tm):Int:=bif !aU t a.name then 10 else bif !aC (bd t a.name).res a.am then 12 else 0
theorem pM (t:List Qu) (n:ByteArray) {b:Bool} {r:Rs} (h:aU t n=b) (h2:mE n t=r):FSpec prog 243 [.one (.sl fJ (gN t)),.one (.sc (.string n))] [] [] (.tup [r.a,.one (.sc (.bool b))]) []:=h▸h2▸E4 t n
theorem Ll (t:List Qu) (a:Tm) (hV:eO t=true):FSpec prog 224 [.one (.sl fJ (gN t)),a.a] [] [] (.i (qT t a)) []:=by
 refine bJ func224 ?_
 have hc:=J3 hV
 cases hh:aU t a.name with
 | false =>
  have hr:mE a.name t=⟨⟨#[]⟩,0,0,0⟩:=by simp [mE,hh]
  rw [show qT t a=10 by simp [qT,hh]]
  repeat' (first
   | refine af ?_ ?_
   | (refine aa 9 rfl ?_;first
    | (refine cB [] (ml (gN t) hc) ?_)
    | (refine cB [] (pM t a.name hh hr) ?_))
   | refine en ?_
   | exact ah|refine ae fun hb=>?_
   | (refine aP (qf []) ?_;exact ab))
 | true =>
  have hr:mE a.name t=(bd t a.name).res:=by simp [mE,hh]
  cases hf:aC (bd t a.name).res a.am with
  | false =>
   rw [show qT t a=12 by simp [qT,hh,hf]]
   repeat' (first
    | refine af ?_ ?_
    | (refine aa 9 rfl ?_;first
     | (refine cB [] (ml (gN t) hc) ?_)
     | (refine cB [] (pM t a.name hh hr) ?_)
     | (refine cB [] (oc (bd t a.name).res a.am) ?_))
    | refine en ?_
    | exact ah|refine ae fun hb=>?_
    | (refine aP (qf []) ?_;exact ab))
  | true =>
   rw [show qT t a=0 by simp [qT,hh,hf]]
   repeat' (first
    | refine af ?_ ?_
    | (refine aa 9 rfl ?_;first
     | (refine cB [] (ml (gN t) hc) ?_)
     | (refine cB [] (pM t a.name hh hr) ?_)
     | (refine cB [] (oc (bd t a.name).res a.am) ?_))
    | refine en ?_
    | exact ah|refine ae fun hb=>?_
    | (refine aP (qf []) ?_;exact ab))
theorem zZ (t:List Qu) (a:Tm) (l:List Tm):gQ t (a :: l)=bif !decide (qT t a=0) then qT t a else gQ t l:=by
 rw [show gQ t (a :: l)=bif !aU t a.name then 10 else bif !aC (bd t a.name).res a.am then 12 else gQ t l from rfl]
 unfold qT
 cases aU t a.name <;> cases aC (bd t a.name).res a.am <;> rfl
theorem E5 (t:List Qu) (a:Tm) (hV:eO t=true) {e:Int} (h:qT t a=e):FSpec prog 224 [.one (.sl fJ (gN t)),a.a] [] [] (.i e) []:=h▸Ll t a hV
theorem Lm (d:Nat) (t:List Qu) (x:Ex) (hV:eO t=true):FSpec prog 176 [.one (.sl fJ (gN t)),x.a d] [] [] (.i (iH t x)) []:=by
 refine bJ func176 ?_
 have h8:=dy x
 obtain ⟨L,hL⟩:∃L,cY x=L:=⟨_,rfl⟩
 rw [hL] at h8
 cases hv:oO x with
 | false =>
  rw [show iH t x=1 by simp [iH,hv]]
  repeat' (first
   | refine af ?_ ?_
   | refine aa 9 rfl (cC [] (ly d x hv hL) ?_)
   | refine en ?_
   | exact ah|refine ae fun hb=>?_
   | (refine aP (qf []) ?_;exact ab))
 | true =>
  rw [show iH t x=gQ t L by simp [iH,hv,hL]]
  repeat' (first
   | refine af ?_ ?_
   | refine aa 9 rfl (cC [] (ly d x hv hL) ?_)
   | refine en ?_
   | exact ah|refine ae fun hb=>?_)
  refine ao (fun i=>i≤L.length∧gQ t (L.drop i)=gQ t L) (fun i=>cy [] [(0,.c (.sl fJ (gN t))),(5,.c (.sl cL L)),(7,.i i)] []) (fun i=>L.length-i) 0 ⟨Nat.zero_le _,rfl⟩ (by exact ap (qf [])) ?_
  rintro i ⟨hi,hs⟩
  by_cases hlt:i<L.length
  ·rw [List.drop_eq_getElem_cons hlt,zZ] at hs
   obtain ⟨e,he⟩:∃e,qT t L[i]=e:=⟨_,rfl⟩
   rw [he] at hs
   by_cases h0:e=0
   ·subst h0
    repeat' (first
     | refine af ?_ ?_
     | refine aa 9 rfl (cB [] (E5 t L[i] hV he) ?_)
     | refine en ?_
     | exact ah|(refine ae fun hb=>?_;first|(exact (hb rfl).elim)|skip))
    refine ⟨i+1,⟨by omega,by rw [←hs];rfl⟩,by omega,?_⟩
    exact ap (qf [])
   ·rw [←hs,decide_eq_false h0,Bool.not_false,cond_true]
    repeat' (first
     | refine af ?_ ?_
     | refine aa 9 rfl (cB [] (E5 t L[i] hV he) ?_)
     | refine en ?_
     | exact ah|refine ae fun hb=>?_
     | (refine aP (qf []) ?_;exact ab))
  ·rw [←hs,List.drop_eq_nil_of_le (by omega),show gQ t []=0 from rfl]
   repeat' (first
    | refine af ?_ ?_
    | refine en ?_
    | exact ah|refine ae fun hb=>?_
    | (refine aP (qf []) ?_;exact ab))
theorem na (t:List Qu) (p:Pr) (a:Tm) (prio:Int):(bI t p a prio).2.1.length≤18:=by
 unfold bI
 cases hV:eO t with
 | false=>simp [fF]
 | true =>
  by_cases hf:bw a.name 0 t<0
  ·simp [hf,fF]
  ·obtain ⟨i,hi,hF,hq,hx⟩:=gg hf
   have:=so (dK hV (List.getElem_mem hi)) p a.am prio
   rw [hq]
   generalize (decide ((aD t).length=8) && !decide (p∈aD t))=b
   cases b <;> cases decide ((bt t[i] p a.am prio).2.2=0) <;> simp [hf,fF,gH] <;> omega
def Hx (p:Pr) (prio:Int):List Tm→Wk→Prop
 | [],_=>True
 | a :: l,w=>w.ev.length≤900000∧Hx p prio l (w.take (bI w.c.queues p a prio).1 (bI w.c.queues p a prio).2.1)
def Ln (w:Wk) (i:Nat) (r:Rq):Prop:=i<w.c.procs.length∧eO w.c.queues=true∧w.c.queues.length≤100000∧((w.pc i).waiting=false→qo r=true→iH w.c.queues r.expr=0→Hx (w.pc i).proc r.prio (cY r.expr) (JW w i r)∧StOk (Dc w i r).c.procs.length (Dc w i r))
theorem z7 (w:Wk) (i:Nat) (r:Rq):cQ w i r=bif (w.pc i).waiting then (w,14) else bif !qo r then (w,1) else bif !decide (iH w.c.queues r.expr=0) then (w,iH w.c.queues r.expr) else (aS (Dc w i r).c.procs.length (Dc w i r),0):=rfl
theorem E6 (d:Nat) (w:Wk) (i:Nat) (r:Rq) (hok:Ln w i r) {Z:Wk×Int} (hZ:cQ w i r=Z):FSpec prog 129 [j6,mb i,r.a d] (HI d w) [3,4] (.i Z.2) (HO d Z.1):=by
 refine bJ func129 ?_
 obtain ⟨hi,hV,hq8,hst⟩:=hok
 obtain ⟨x,hx⟩:∃x,w.c.procs[i]? = some x:=⟨_,List.getElem?_eq_getElem hi⟩
 have hpc:=j7 hx
 rw [z7] at hZ
 unfold Dc at hZ hst
 unfold JW at hZ hst
 rw [hpc] at hZ hst
 have kV:=sm d r
 cases hw:x.waiting with
 | true =>
  obtain rfl:Z=(w,14):=by rw [←hZ,hw];rfl
  repeat' (first
   | refine af ?_ ?_
   | refine en ?_
   | exact ah|(refine ae fun hb=>?_;first|(cases hw.symm.trans hb;done)|skip)
   | (refine aP (qf [(3,1),(4,2)]) ?_;exact ab))
 | false =>
  rw [hw,cond_false] at hZ
  cases hr:qo r with
  | false =>
   obtain rfl:Z=(w,1):=by rw [←hZ,hr];rfl
   rw [hr] at kV
   repeat' (first
    | refine af ?_ ?_
    | refine aa 9 rfl (cB [] (kV) ?_)
    | refine en ?_
    | exact ah|(refine ae fun hb=>?_;first|(cases hw.symm.trans hb;done)|skip)
    | (refine aP (qf [(3,1),(4,2)]) ?_;exact ab))
  | true =>
   rw [hr,Bool.not_true,cond_false] at hZ
   rw [hr] at kV
   have kC:=xX w.c.queues hq8
   have kR:=Lm d w.c.queues r.expr hV
   obtain ⟨e,he⟩:∃e,iH w.c.queues r.expr=e:=⟨_,rfl⟩
   rw [he] at hZ hst kR
   by_cases h0:e=0
   case neg =>
    obtain rfl:Z=(w,e):=by rw [←hZ,decide_eq_false h0];rfl
    repeat' (first
     | refine af ?_ ?_
     | (refine aa 9 rfl ?_;first
      | (refine cB [] (kV) ?_)
      | (refine cC [] (kC) ?_)
      | (refine cB [] (kR) ?_))
     | refine en ?_
     | exact ah|(refine ae fun hb=>?_;first|(cases hw.symm.trans hb;done)|(exact absurd hb h0)|skip)
     | (refine aP (qf [(3,1),(4,2)]) ?_;exact ab))
   obtain ⟨hcl,hs⟩:=hst hw hr h0
   rw [decide_eq_true h0,Bool.not_true,cond_false] at hZ
   obtain ⟨A,hA⟩:∃A,w.setP i { x with waiting:=true,req:=r,since:=w.c.now } = A:=⟨_,rfl⟩
   rw [hA] at hZ hcl hs
   have hAi:i<A.c.procs.length:=by rw [←hA,gI];exact hi
   obtain ⟨z,hz,hzp⟩:∃z,(bb A i).c.procs[i]? = some z∧z.proc=x.proc:=by
    refine ⟨{ A.pc i with gen:=bj (A.pc i).gen },?_,?_⟩
    ·show (List.set _ _ _)[i]? = _
     rw [List.getElem?_set_self hAi]
    ·show (A.pc i).proc=x.proc
     rw [←hA]
     unfold Wk.pc Wk.setP
     rw [List.getD_eq_getElem?_getD,List.getElem?_set_self hi]
     rfl
   have h8:=dy r.expr
   obtain ⟨L,hL⟩:∃L,cY r.expr=L:=⟨_,rfl⟩
   rw [hL] at hZ hcl hs h8
   have hs1:=vU hi { x with waiting:=true }
   have hl1:(w.c.procs.set i { x with waiting:=true }).length=w.c.procs.length:=List.length_set
   have hs2:=vU (hl1▸hi) { x with waiting:=true,req:=r }
   have hl2:((w.c.procs.set i { x with waiting:=true }).set i { x with waiting:=true,req:=r }).length=w.c.procs.length:=by rw [List.length_set,hl1]
   have eA:A=⟨{ w.c with procs:=((w.c.procs.set i { x with waiting:=true }).set i { x with waiting:=true,req:=r }).set i { x with waiting:=true,req:=r,since:=w.c.now } },w.ev⟩:=by
    rw [←hA]
    unfold Wk.setP
    rw [List.set_set,List.set_set]
   have kX:=mW d A i hAi
   obtain ⟨B,hB⟩:∃B,bb A i=B:=⟨_,rfl⟩
   rw [hB] at hZ hcl hs hz kX
   rw [eA] at kX
   obtain ⟨W,hW⟩:∃W,dj x.proc r.prio L B=W:=⟨_,rfl⟩
   rw [hW] at hZ hs
   have kS:=mj d W _ hs
   obtain ⟨F,hF⟩:∃F,aS W.c.procs.length W=F:=⟨_,rfl⟩
   rw [hF] at hZ kS
   obtain rfl:Z=(F,0):=hZ.symm
   rw [←hzp] at hcl hW
   obtain ⟨Q,hQ⟩:∃Q,z.proc=Q:=⟨_,rfl⟩
   rw [hQ] at hcl hW
   repeat' (first
    | refine af ?_ ?_
    | (refine aa 9 rfl ?_;first
     | (refine cB [] (kV) ?_)
     | (refine cC [] (kC) ?_)
     | (refine cB [] (kR) ?_)
     | (refine cH (qf [(1,1),(2,2),(3,1003),(4,1004)]) (kX) ?_)
     | (refine cC [] (ji d r.expr hL) ?_))
    | refine en ?_
    | (refine aa 4 rfl ?_;first
     | (refine bW (aL (z:={ x with waiting:=true }) rfl rfl rfl rfl hx rfl rfl rfl rfl (Nat.le_of_ble_eq_true rfl) rfl rfl) rfl rfl rfl ?_)
     | (refine bW (aL (z:={ x with waiting:=true,req:=r }) rfl rfl rfl rfl hs1 rfl rfl rfl rfl (Nat.le_of_ble_eq_true rfl) rfl rfl) rfl rfl rfl ?_)
     | (refine bW (aL (z:={ x with waiting:=true,req:=r,since:=w.c.now }) rfl rfl rfl rfl hs2 rfl rfl rfl rfl (Nat.le_of_ble_eq_true rfl) rfl rfl) rfl rfl rfl ?_))
    | exact ah|(refine ae fun hb=>?_;first|(cases hw.symm.trans hb;done)|(exact absurd h0 hb)|skip))
   refine ao (fun y:Nat×Wk=>y.1≤L.length∧y.2.c.procs=B.c.procs∧Hx Q r.prio (L.drop y.1) y.2∧dj Q r.prio (L.drop y.1) y.2=W) (fun y=>cy [0,1,2,5,1010,1011] [(0,.v j6),(1,.v (mb i)),(5,.c (.ptr 5 0)),(8,.c (.sl cL L)),(9,.i y.1)] [(0,.box 169 (Db y.2 1010 1011)),(5,.box 36 (r.d d)),(1010,.arr 38 (sa d) y.2.c.procs),(1011,.arr 296 qq y.2.ev)]) (fun y=>L.length-y.1) (0,B) ⟨Nat.zero_le _,rfl,hcl,hW⟩ (by exact ap (qf [(1010,1003),(1011,1004)])) ?_
   rintro ⟨k,v⟩ ⟨hk,hp,hv,hg⟩
   dsimp only at *
   by_cases hlt:k<L.length
   case neg =>
    obtain rfl:v=W:=by rw [←hg,List.drop_eq_nil_of_le (by omega)];rfl
    repeat' (first
     | refine af ?_ ?_
     | refine aa 9 rfl (cH (qf [(1,1010),(2,1011),(3,1020),(4,1021)]) (kS) ?_)
     | refine en ?_
     | exact ah|refine ae fun hb=>?_
     | (refine aP (qf [(3,1020),(4,1021)]) ?_;exact ab))
   rw [List.drop_eq_getElem_cons hlt] at hv hg
   obtain ⟨a,ha⟩:∃a,L[k]=a:=⟨_,rfl⟩
   have hga:L[k]? = some a:=by rw [List.getElem?_eq_getElem hlt,ha]
   rw [ha] at hv hg
   obtain ⟨v1,v2⟩:=hv
   have hg:dj Q r.prio (L.drop (k+1)) (v.take (bI v.c.queues Q a r.prio).1 (bI v.c.queues Q a r.prio).2.1)=W:=hg
   obtain ⟨R,hR⟩:∃R,bI v.c.queues Q a r.prio=R:=⟨_,rfl⟩
   have hll:=na v.c.queues Q a r.prio
   rw [hR] at hll v2 hg
   have hzv:v.c.procs[i]? = some z:=by rw [hp];exact hz
   have hiv:=(List.getElem?_eq_some_iff.1 hzv).1
   have kT:=Hq v.c.queues Q a r.prio hR
   rw [←hQ] at kT
   repeat' (first
    | refine af ?_ ?_
    | (refine aa 9 rfl ?_;first
     | (refine cC [] (kT) ?_)
     | (refine cH (qf [(1,1010),(2,1011),(3,1020),(4,1021)]) (qu d v R.1 R.2.1 (by omega)) ?_))
    | refine en ?_
    | exact ah|refine ae fun hb=>?_)
   refine ⟨(k+1,v.take R.1 R.2.1),⟨by dsimp only;omega,hp,v2,hg⟩,by dsimp only;omega,?_⟩
   exact ap (qf [(1010,1020),(1011,1021)])
instance (d:Nat):ST prog (sa d) 46 38 184:=⟨ElTB.mk' underlying46 (.agg #[.int .i64 0,.int .i64 0,.int .i64 0,.int .i64 0,.slice none 0 0,.slice none 0 0,.bool false,.int .i64 0,.string ⟨#[]⟩,.int .i64 0,.int .i64 0,.slice none 0 0,.int .i64 0,.int .i64 0,.int .i64 0,.int .i64 0]) 16 184 (by kernel_rfl) rfl rfl⟩
def Lp (w:Wk) (i:Nat):Prop:=i<w.c.procs.length∧w.c.procs.length≤100000∧w.ev.length≤900000∧(bO w.c.queues (w.pc i).proc).2.length≤1000∧StOk (IN w i).c.procs.length (IN w i)
theorem Hy (w:Wk) (i:Nat):iO w i=aS (IN w i).c.procs.length (IN w i):=rfl
theorem Lq (d:Nat) (w:Wk) (i:Nat) (hok:Lp w i):FSpec prog 136 [j6,mb i] (HI d w) [3,4] (.tup []) (HO d (iO w i)):=by
 refine bJ func136 ?_
 obtain ⟨hi,hp8,hev,hrl,hs⟩:=hok
 obtain ⟨x,hx⟩:∃x,w.c.procs[i]? = some x:=⟨_,List.getElem?_eq_getElem hi⟩
 have hpc:=j7 hx
 rw [Hy]
 unfold IN at hs ⊢
 rw [hpc] at hs hrl ⊢
 obtain ⟨R,hR⟩:∃R,bO w.c.queues x.proc=R:=⟨_,rfl⟩
 rw [hR] at hs hrl ⊢
 have kR:=EU w.c.queues x.proc hR
 have hcut:w.c.procs.take i++w.c.procs.drop (i+1)=w.c.procs.eraseIdx i:=(List.eraseIdx_eq_take_drop_succ ..).symm
 have kN:=EA d ⟨{ w.c with queues:=R.1,procs:=w.c.procs.eraseIdx i },w.ev++R.2⟩ 5 x.proc (by simp;omega)
 have kS:=mj d _ _ hs
 have hlq:(w.take R.1 R.2).c.procs.length=w.c.procs.length:=rfl
 repeat' (first
  | refine af ?_ ?_
  | (refine aa 9 rfl ?_;first
   | (refine cC [] (kR) ?_)
   | (refine cH (qf [(3,1003),(4,1004)]) (qu d w R.1 R.2 (by omega)) ?_)
   | (refine cH (qf [(1,42),(2,1004),(3,1005),(4,1006)]) (kN) ?_)
   | (refine cH (qf [(1,1005),(2,1006),(3,1007),(4,1008)]) (kS) ?_))
  | refine en ?_
  | exact ah|refine ae fun hb=>?_
  | (refine bc (D5 rfl rfl rfl rfl rfl rfl (by first|omega|(show _≤w.c.procs.length;omega)) (by first|omega|(show 0<w.c.procs.length;omega))) rfl rfl rfl ?_)
  | (refine bc (D6 (j:=i+1) rfl rfl rfl rfl rfl (by first|omega|(show _≤w.c.procs.length;omega)) (by first|omega|(show 0<w.c.procs.length;omega))) rfl rfl rfl ?_)
  | (refine bc (zH rfl rfl rfl rfl rfl rfl (by first|omega|(show _≤w.c.procs.length;omega)) (by first|omega|(show _≤w.c.procs.length;omega)) hcut (by simp only [maxLen];omega) (by omega)) rfl rfl rfl ?_)
  | (exact Eb (qf [(3,1007),(4,1008)])))
end Go.Proofs.YtdaajdflefnjfaaGreat
