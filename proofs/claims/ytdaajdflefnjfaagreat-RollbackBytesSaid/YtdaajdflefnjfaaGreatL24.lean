/- Part 24 of 25 of the proof of rollbackBytes_holds (no condition). -/
import Derived.Test.YtdaajdflefnjfaaGreatL23
import Derived.Test.YtdaajdflefnjfaaGreatChecked
set_option linter.unusedVariables false
set_option linter.unusedSimpArgs false
set_option maxRecDepth 100000
set_option maxHeartbeats 64000000
namespace Go.Proofs.YtdaajdflefnjfaaGreat
open Go.RowKit Go.Proofs.Tryz
def yJ (x:Pc):Nd:=⟨x.proc,x.req.expr,x.gen⟩
def JX (c:Cs):Ws:=bif !fB c then ⟨[],[]⟩ else ⟨c.queues,(c.procs.filter (·.waiting)).map yJ⟩
def tg (s:Ws) (p:Pr):Bool:=match mv s.needs p with
 | none=>true
 | some n=>ew n.expr (mP s p)
def iJ (s:Ws):List Pr:=bif !cq s then [] else (cf s).filter (tg s)
def th (p:Pr) (q:Qu):Qu:=bif dT q p then { (bd q p).1 with gen:=q.gen } else q
def Dc (s:Ws) (p:Pr):Ws:=⟨s.queues.map (th p),s.needs.filter fun n=>!decide (n.proc=p)⟩
def oQ:Nat→Ws→List Pr×Ws
 | 0,s=>([],s)
 | n+1,s=>match iJ s with
  | []=>([],s)
  | p :: _=>(p :: (oQ n (Dc s p)).1,(oQ n (Dc s p)).2)
def mh (s:Ws):List Pr×List Pr:=bif !cq s then ([],[]) else ((oQ (cf s).length s).1,cf (oQ (cf s).length s).2)
theorem gU {s:Ws} (h:cq s=true):s.queues.length≤8∧s.needs.length≤8∧(∀q∈s.queues,fO q)∧(cf s).length≤8:=by
 unfold cq at h
 simp only [Bool.and_eq_true,decide_eq_true_eq] at h
 obtain ⟨h1,h2⟩:=n9 h.1.1.1
 exact ⟨h1,h.1.1.2,h2,h.2⟩
def RedOk:Nat→Ws→Prop
 | 0,s=>cq s=true∧iJ s=[]
 | n+1,s=>cq s=true∧∀p l,iJ s=p :: l→RedOk n (Dc s p)
theorem RedOk.v {n:Nat} {s:Ws} (h:RedOk n s):cq s=true:=by cases n <;> exact h.1
theorem yK {n:Nat} {s:Ws} (h:iJ s=[]):oQ n s=([],s):=by
 cases n with
 | zero=>rfl
 | succ n=>unfold oQ;rw [h]
theorem uX {n:Nat} {s:Ws} {p:Pr} {l:List Pr} (h:iJ s=p :: l):oQ (n+1) s=(p :: (oQ n (Dc s p)).1,(oQ n (Dc s p)).2):=by
 conv=>lhs;unfold oQ
 rw [h]
theorem yL (q:Qu) (g:Int):∀(l:List Wt) (k:Nat),tw { q with gen:=g } k l=tw q k l
 | [],_=>rfl
 | x :: l,k=>by rw [ly,ly,yL q g l];rfl
theorem yM (q:Qu) (g:Int):∀(l:List Wt),re { q with gen:=g } l=re q l
 | []=>rfl
 | x :: l=>by rw [lz,lz,yM q g l]
theorem JY (q:Qu) (g:Int):F9 { q with gen:=g } = F9 q:=by unfold F9;dsimp only;rw [yL]
theorem JZ (q:Qu) (g:Int):Ga { q with gen:=g } = Ga q:=by unfold Ga;dsimp only;rw [yM]
theorem yN {q:Qu} {g:Int} (h:ar q=true) (h0:0≤g) (h1:g≤1073741824):ar { q with gen:=g } = true:=by
 have hs:et { q with gen:=g } = (et q || false):=by
  unfold ar at h
  rw [Bool.and_eq_true] at h
  rw [h.1]
  have h2:=h.1
  unfold et at h2 ⊢
  simp only [Bool.and_eq_true,decide_eq_true_eq] at h2
  show (mm q.res && tT q.res q.holds && F9 { q with gen:=g } && Ga { q with gen:=g } && decide (0≤g) && decide (g≤1073741824))=_
  rw [decide_eq_true h0,decide_eq_true h1,h2.1.1.1.1.1,h2.1.1.1.1.2]
  have e1:F9 { q with gen:=g } = F9 q:=JY q g
  have e2:Ga { q with gen:=g } = Ga q:=JZ q g
  rw [e1,e2,h2.1.1.1.2,h2.1.1.2]
  rfl
 unfold ar at h ⊢
 rw [hs,Bool.or_false]
 exact h
theorem Bw (p:Pr) (q:Qu):(th p q).res=(gC p q).res∧(th p q).holds=(gC p q).holds∧(th p q).convs=(gC p q).convs∧(th p q).waits=(gC p q).waits:=by
 unfold th gC
 cases dT q p <;> exact ⟨rfl,rfl,rfl,rfl⟩
theorem J0 (p:Pr) (q:Qu) (h:ar q=true):ar (th p q)=true∧(th p q).res=q.res:=by
 have ho:=(jG (p:=p) h).1
 refine ⟨?_,(Bw p q).1.trans ho.res⟩
 have hg:=(aG h).gen
 have hk:=ho.ok
 unfold th
 unfold gC at hk
 cases hh:dT q p with
 | false=>exact h
 | true =>
  rw [hh] at hk
  exact yN hk hg.1 hg.2
theorem C4 (p:Pr) (q:Qu):eu (th p q)=eu (gC p q):=by
 obtain ⟨_,h2,h3,h4⟩:=Bw p q
 unfold eu rf
 rw [h2,h3,h4]
theorem By (p:Pr):∀t:List Qu,iW (t.map (th p))=iW (t.map (gC p))
 | []=>rfl
 | q :: t=>by
  show eu (th p q)++iW (t.map (th p))=eu (gC p q)++iW (t.map (gC p))
  rw [C4,By p t]
theorem FW {s:Ws} (h:cq s=true):ez s.queues=true:=by
 obtain ⟨_,_,_,h8⟩:=gU h
 have hp:dO s.queues=true:=by unfold cq at h;simp only [Bool.and_eq_true] at h;exact h.1.1.1
 unfold ez
 rw [hp,Bool.true_and,decide_eq_true_eq]
 have:=fx (ec s.queues) (m:=cf s) fun x hx=>by
  unfold cf
  rw [bw]
  exact List.mem_append.2 (.inl hx)
 omega
theorem wF (s:Ws):(cf s).Nodup:=by
 refine (gN _).imp ?_
 intro a b hab e
 subst e
 exact bE _ hab
theorem Ic {o:Option Pr} {y:Pr} (h:Ek o y=true):∀l:List Nd,vU (some y) l=true→vU o l=true
 | [],_=>rfl
 | z :: l,k=>by
  rw [lT,Bool.and_eq_true,Bool.and_eq_true] at k ⊢
  refine ⟨⟨k.1.1,?_⟩,k.2⟩
  have h2:cU y z.proc<0:=of_decide_eq_true k.1.2
  cases o with
  | none=>rfl
  | some x =>
   have h1:cU x y<0:=of_decide_eq_true h
   exact decide_eq_true ((gG _ _).2 (cz ((gG _ _).1 h1) ((gG _ _).1 h2)))
theorem pQ (f:Nd→Bool):∀(l:List Nd) (o:Option Pr),vU o l=true→vU o (l.filter f)=true
 | [],_,h=>h
 | x :: l,o,h=>by
  rw [lT,Bool.and_eq_true,Bool.and_eq_true] at h
  rw [List.filter_cons]
  cases hf:f x with
  | true =>
   rw [if_pos rfl,lT,Bool.and_eq_true,Bool.and_eq_true]
   exact ⟨h.1,pQ f l _ h.2⟩
  | false =>
   rw [if_neg (by decide)]
   exact pQ f l o (Ic h.1.2 l h.2)
theorem FX {s:Ws} {p:Pr} (h:cq s=true) (hp:p∈cf s):cq (Dc s p)=true∧(cf (Dc s p)).length<(cf s).length:=by
 have htv:=FW h
 obtain ⟨htp,hnp⟩:=pD htv p
 have e:(bN s.queues p).1=s.queues.map (gC p):=by
  unfold bN
  rw [htv]
  exact lf p s.queues
 rw [e] at htp hnp
 have hpt:az (s.queues.map (th p))=az (s.queues.map (gC p)):=by unfold az;rw [By]
 have hsub:∀x∈p :: cf (Dc s p),x∈cf s:=by
  intro x hx
  rcases List.mem_cons.1 hx with rfl|hx
  ·exact hp
  ·unfold cf at hx ⊢
   rw [bw] at hx ⊢
   rcases List.mem_append.1 hx with hx|hx
   ·have hx:x∈az (s.queues.map (th p)):=hx
    rw [hpt] at hx
    rcases htp.sub x hx with e|e
    ·subst e;unfold cf at hp;rw [bw] at hp;exact hp
    ·exact List.mem_append.2 (.inl e)
   ·obtain ⟨n,hn,rfl⟩:=List.mem_map.1 hx
    exact List.mem_append.2 (.inr (List.mem_map.2 ⟨n,(List.mem_filter.1 hn).1,rfl⟩))
 have hpn:p ∉ cf (Dc s p):=by
  intro hx
  unfold cf at hx
  rw [bw] at hx
  rcases List.mem_append.1 hx with hx|hx
  ·have hx:p∈az (s.queues.map (th p)):=hx
   rw [hpt] at hx
   exact hnp hx
  ·obtain ⟨n,hn,he⟩:=List.mem_map.1 hx
   have:=(List.mem_filter.1 hn).2
   rw [decide_eq_true he] at this
   cases this
 have hlen:=fx (List.nodup_cons.2 ⟨hpn,wF (Dc s p)⟩) hsub
 rw [List.length_cons] at hlen
 refine ⟨?_,by omega⟩
 obtain ⟨_,hn8,_,h8⟩:=gU h
 unfold cq at h ⊢
 simp only [Bool.and_eq_true,decide_eq_true_eq] at h ⊢
 refine ⟨⟨⟨?_,?_⟩,pQ _ _ _ h.1.2⟩,by omega⟩
 ·have h1:=h.1.1.1
  unfold dO at h1 ⊢
  simp only [Bool.and_eq_true,decide_eq_true_eq] at h1 ⊢
  exact ⟨by show (s.queues.map (th p)).length≤8;simpa using h1.1,sH (J0 p) h1.2⟩
 ·have:=List.length_filter_le (fun n:Nd=>!decide (n.proc=p)) s.needs
  show (s.needs.filter _).length≤8
  omega
theorem yO {s:Ws} {p:Pr} {l:List Pr} (h:iJ s=p :: l):cq s=true∧p∈cf s:=by
 unfold iJ at h
 cases hv:cq s with
 | false=>rw [hv] at h;cases h
 | true =>
  rw [hv] at h
  have h:(cf s).filter (tg s)=p :: l:=h
  have:p∈(cf s).filter (tg s):=by rw [h];simp
  exact ⟨rfl,(List.mem_filter.1 this).1⟩
theorem FY:∀(n:Nat) (s:Ws),cq s=true→(cf s).length≤n→RedOk n s
 | 0,s,h,hn=>by
  refine ⟨h,?_⟩
  cases hF:iJ s with
  | nil=>rfl
  | cons p l =>
   have:=(yO hF).2
   rw [List.length_eq_zero_iff.1 (Nat.le_zero.1 hn)] at this
   cases this
 | n+1,s,h,hn=>⟨h,fun p l hF=>by
  obtain ⟨h1,h2⟩:=FX h (yO hF).2
  exact FY n _ h1 (by omega)⟩
theorem Mm (d:Nat) (c:Cs) {R:Ws} (hR:JX c=R):FSpec prog 40 [c.a d] [] [] (.v (R.a d)) []:=by
 refine aX func40 ?_
 unfold JX at hR
 obtain ⟨v,hv⟩:∃v,fB c=v:=⟨_,rfl⟩
 have kV:=Bg d c hv
 rw [hv] at hR
 cases v with
 | false =>
  obtain rfl:R=⟨[],[]⟩:=hR.symm
  repeat' (first
   | refine ah ?_ ?_
   | refine aa 9 rfl (cB [] (kV) ?_)
   | refine af ?_
   | exact ai|refine ae fun hb=>?_
   | (refine aE (qf []) ?_;exact ab))
 | true =>
  obtain ⟨hci,_⟩:=fh.1 hv
  have h8:=hci.len
  have hq8:=(cm hci.tv).1
  obtain ⟨F,hF⟩:∃F,(c.procs.filter (·.waiting)).map yJ=F:=⟨_,rfl⟩
  rw [Bool.not_true,cond_false,hF] at hR
  obtain rfl:R=⟨c.queues,F⟩:=hR.symm
  repeat' (first
   | refine ah ?_ ?_
   | refine aa 9 rfl (cB [] (kV) ?_)
   | refine af ?_
   | exact ai|refine ae fun hb=>?_)
  refine fC 3 1 1000 148 (Ii d) rfl rfl rfl rfl ?_
  refine ak (fun y:Nat×List Nd=>y.1≤c.procs.length∧y.2.length≤y.1∧y.2++((c.procs.drop y.1).filter (·.waiting)).map yJ=F) (fun y=>bH [1,2,3,1000,1001] [(1,.c (.ptr 1 0)),(2,.c (.ptr 2 0)),(3,.c (.ptr 3 0)),(4,.i y.1)] [(1,.box 49 (c.d d)),(2,.box 92 [.sc (.slice none 0 0),.sc (.slice none 0 0)]),(3,.box 92 [.own 1001,.own 1000]),(1001,.arr 165 ji c.queues),(1000,.arr 148 (Ii d) y.2)]) (fun y=>c.procs.length-y.1) (0,[]) ⟨Nat.zero_le _,Nat.le_refl _,hF⟩ (by exact ao (qf [(1001,12)])) ?_
  clear hF
  rintro ⟨i,T⟩ ⟨hi,hTl,hs⟩
  dsimp only at *
  by_cases hlt:i<c.procs.length
  ·obtain ⟨x,hx⟩:∃x,c.procs[i]? = some x:=⟨_,List.getElem?_eq_getElem hlt⟩
   have ex:c.procs[i]=x:=(List.getElem?_eq_some_iff.1 hx).2
   rw [List.drop_eq_getElem_cons hlt,ex,List.filter_cons] at hs
   cases hw:x.waiting with
   | true =>
    rw [if_pos hw,List.map_cons] at hs
    repeat' (first
     | refine ah ?_ ?_
     | (refine aa 8 rfl ?_;refine aM (aj rfl rfl (ax rfl rfl) (aB [yJ x] rfl rfl rfl rfl) rfl aC aC) rfl rfl rfl ?_)
     | refine af ?_
     | exact ai|(refine ae fun hb=>?_;first|(cases hw.symm.trans hb;done)|skip))
    refine ⟨(i+1,T++[yJ x]),⟨by dsimp only;omega,by simp;omega,?_⟩,by dsimp only;omega,?_⟩
    ·dsimp only
     rw [←hs]
     simp
    ·exact ao (qf [(1000,50)])
   | false =>
    rw [if_neg (by rw [hw];decide)] at hs
    repeat' (first
     | refine ah ?_ ?_
     | refine af ?_
     | exact ai|(refine ae fun hb=>?_;first|(cases hw.symm.trans hb;done)|skip))
    refine ⟨(i+1,T),⟨by dsimp only;omega,by dsimp only;omega,hs⟩,by dsimp only;omega,?_⟩
    exact ao (qf [])
  ·rw [List.drop_eq_nil_of_le (by omega)] at hs
   obtain rfl:T=F:=by rw [←hs];simp
   repeat' (first
    | refine ah ?_ ?_
    | refine af ?_
    | exact ai|refine ae fun hb=>?_
    | (refine aE (qf []) ?_;exact ab))
theorem Ao (s:Ws) (p:Pr):(mP s p).length≤8:=by
 unfold mP
 cases mv s.needs p with
 | none=>simp
 | some x =>
  have:=dh x.expr
  cases cq s <;> simp
  exact this
theorem J1 (d:Nat) (s:Ws) (p:Pr) {b:Bool} (hb0:tg s p=b):FSpec prog 116 [s.a d,p.a] [] [] (.b b) []:=by
 refine aX func116 ?_
 unfold tg at hb0
 cases hr:mv s.needs p with
 | none =>
  rw [hr] at hb0
  obtain rfl:b=true:=hb0.symm
  have kN:=vW d s p hr
  repeat' (first
   | refine ah ?_ ?_
   | refine aa 9 rfl (cC [] (kN) ?_)
   | refine af ?_
   | exact ai|refine ae fun hb=>?_
   | (refine aE (qf []) ?_;exact ab))
 | some n =>
  rw [hr] at hb0
  have kN:=vW d s p hr
  have kG:=Cn d s p
  have kH:=sb d n.expr (mP s p) (by have:=Ao s p;omega)
  have hb0:ew n.expr (mP s p)=b:=hb0
  rw [hb0] at kH
  repeat' (first
   | refine ah ?_ ?_
   | (refine aa 9 rfl ?_;first
    | (refine cC [] (kN) ?_)
    | (refine cC [] (kG) ?_)
    | (refine cB [] (kH) ?_))
   | refine af ?_
   | exact ai|refine ae fun hb=>?_
   | (refine aE (qf []) ?_;exact ab))
theorem FZ (d:Nat) (s:Ws) {F:List Pr} (hF:iJ s=F):FSpec prog 86 [s.a d] [] [] (.c (.sl iz F)) []:=by
 refine aX func86 ?_
 unfold iJ at hF
 have kV:=oa d s
 obtain ⟨v,hv⟩:∃v,cq s=v:=⟨_,rfl⟩
 rw [hv] at kV hF
 cases v with
 | false =>
  obtain rfl:F=[]:=hF.symm
  repeat' (first
   | refine ah ?_ ?_
   | refine aa 9 rfl (cB [] (kV) ?_)
   | refine af ?_
   | exact ai|refine ae fun hb=>?_
   | (refine aE (qf []) ?_;exact ab))
 | true =>
  obtain ⟨h1,h2,h3,h8⟩:=gU hv
  have kP:=vV d s (by omega) (by omega) h3
  rw [Bool.not_true,cond_false] at hF
  obtain ⟨L,hL⟩:∃L,cf s=L:=⟨_,rfl⟩
  rw [hL] at kP hF h8
  repeat' (first
   | refine ah ?_ ?_
   | (refine aa 9 rfl ?_;first
    | (refine cB [] (kV) ?_)
    | (refine cC [] (kP) ?_))
   | refine af ?_
   | exact ai|refine ae fun hb=>?_)
  refine cc 3 1000 23 iz rfl rfl rfl ?_
  refine ak (fun y:Nat×List Pr=>y.1≤L.length∧y.2.length≤y.1∧y.2++(L.drop y.1).filter (tg s)=F) (fun y=>bH [1,1000] [(1,.c (.ptr 1 0)),(3,.c (.own 1000)),(4,.c (.sl iz L)),(5,.i y.1)] [(1,.box 92 (s.d d)),(1000,.arr 23 iz y.2)]) (fun y=>L.length-y.1) (0,[]) ⟨Nat.zero_le _,Nat.le_refl _,hF⟩ (by exact ao (qf [])) ?_
  clear hF
  rintro ⟨i,T⟩ ⟨hi,hTl,hs⟩
  dsimp only at *
  by_cases hlt:i<L.length
  ·obtain ⟨x,hx⟩:∃x,L[i]? = some x:=⟨_,List.getElem?_eq_getElem hlt⟩
   have ex:L[i]=x:=(List.getElem?_eq_some_iff.1 hx).2
   rw [List.drop_eq_getElem_cons hlt,ex,List.filter_cons] at hs
   obtain ⟨f,hf⟩:∃f,tg s x=f:=⟨_,rfl⟩
   have k1:=J1 d s x hf
   rw [hf] at hs
   cases f with
   | true =>
    rw [if_pos rfl] at hs
    repeat' (first
     | refine ah ?_ ?_
     | (refine aa 8 rfl ?_;refine aM (aj rfl rfl (ax rfl rfl) (aB [x] rfl rfl rfl rfl) rfl aC aC) rfl rfl rfl ?_)
     | refine aa 9 rfl (cC [] (k1) ?_)
     | refine af ?_
     | exact ai|refine ae fun hb=>?_)
    refine ⟨(i+1,T++[x]),⟨by dsimp only;omega,by simp;omega,?_⟩,by dsimp only;omega,?_⟩
    ·dsimp only
     rw [←hs]
     simp
    ·exact ao (qf [(1000,29)])
   | false =>
    rw [if_neg (by decide)] at hs
    repeat' (first
     | refine ah ?_ ?_
     | refine aa 9 rfl (cC [] (k1) ?_)
     | refine af ?_
     | exact ai|refine ae fun hb=>?_)
    refine ⟨(i+1,T),⟨by dsimp only;omega,by dsimp only;omega,hs⟩,by dsimp only;omega,?_⟩
    exact ao (qf [])
  ·rw [List.drop_eq_nil_of_le (by omega)] at hs
   obtain rfl:T=F:=by rw [←hs];simp
   repeat' (first
    | refine ah ?_ ?_
    | refine af ?_
    | exact ai|refine ae fun hb=>?_
    | (refine aE (qf []) ?_;exact ab))
theorem F0 (d:Nat) (s:Ws) (p:Pr) (h1:s.queues.length≤100000) (h2:s.needs.length≤100000) {R:Ws} (hR:Dc s p=R):FSpec prog 87 [s.a d,p.a] [] [] (.v (R.a d)) []:=by
 refine aX func87 ?_
 obtain ⟨Q,hQ⟩:∃Q,s.queues.map (th p)=Q:=⟨_,rfl⟩
 obtain ⟨N,hN⟩:∃N,s.needs.filter (fun n=>!decide (n.proc=p))=N:=⟨_,rfl⟩
 obtain rfl:R=⟨Q,N⟩:=by rw [←hR,←hQ,←hN];rfl
 clear hR
 repeat' (first
  | refine ah ?_ ?_
  | refine af ?_
  | exact ai|refine ae fun hb=>?_)
 refine fC 5 0 1000 165 ji rfl rfl rfl rfl ?_
 refine ak (fun y:Nat×List Qu=>y.1≤s.queues.length∧y.2.length=y.1∧y.2++(s.queues.drop y.1).map (th p)=Q) (fun y=>bH [2,3,4,5,1000] [(2,.c (.ptr 2 0)),(3,.c (.ptr 3 0)),(4,.c (.ptr 4 0)),(5,.c (.ptr 5 0)),(6,.i y.1)] [(2,.box 92 (s.d d)),(3,.box 23 [.sc (.int .i64 p.site),.sc (.int .i64 p.inc),.sc (.int .i64 p.num)]),(4,.box 92 [.sc (.slice none 0 0),.sc (.slice none 0 0)]),(5,.box 92 [.own 1000,.sc (.slice none 0 0)]),(1000,.arr 165 ji y.2)]) (fun y=>s.queues.length-y.1) (0,[]) ⟨Nat.zero_le _,rfl,hQ⟩ (by exact ao (qf [])) ?_
 clear hQ
 rintro ⟨i,T⟩ ⟨hi,hTl,hs⟩
 dsimp only at *
 by_cases hlt:i<s.queues.length
 ·obtain ⟨q,hq⟩:∃q,s.queues[i]? = some q:=⟨_,List.getElem?_eq_getElem hlt⟩
  have eq:s.queues[i]=q:=(List.getElem?_eq_some_iff.1 hq).2
  rw [List.drop_eq_getElem_cons hlt,eq,List.map_cons] at hs
  have kH:=Cp q p
  obtain ⟨b,hb0⟩:∃b,dT q p=b:=⟨_,rfl⟩
  rw [hb0] at kH
  cases b with
  | false =>
   rw [show th p q=q by unfold th;rw [hb0];rfl] at hs
   repeat' (first
    | refine ah ?_ ?_
    | (refine aa 8 rfl ?_;refine aM (aj rfl rfl (ax rfl rfl) (aB [q] rfl rfl rfl rfl) rfl aC aC) rfl rfl rfl ?_)
    | refine aa 9 rfl (cB [] (kH) ?_)
    | refine af ?_
    | exact ai|refine ae fun hb=>?_)
   refine ⟨(i+1,T++[q]),⟨by dsimp only;omega,by simp [hTl],?_⟩,by dsimp only;omega,?_⟩
   ·dsimp only
    rw [←hs]
    simp
   ·exact ao (qf [(1000,42)])
  | true =>
   obtain ⟨G,hG⟩:∃G,bd q p=G:=⟨_,rfl⟩
   have kR:=sg q p hG
   rw [show th p q = { G.1 with gen:=q.gen } by unfold th;rw [hb0,hG];rfl] at hs
   repeat' (first
    | refine ah ?_ ?_
    | (refine aa 8 rfl ?_;refine aM (aj rfl rfl (ax rfl rfl) (aB [{ G.1 with gen:=q.gen }] rfl rfl rfl rfl) rfl aC aC) rfl rfl rfl ?_)
    | (refine aa 9 rfl ?_;first
     | (refine cB [] (kH) ?_)
     | (refine cC [] (kR) ?_))
    | refine af ?_
    | exact ai|refine ae fun hb=>?_)
   refine ⟨(i+1,T++[{ G.1 with gen:=q.gen }]),⟨by dsimp only;omega,by simp [hTl],?_⟩,by dsimp only;omega,?_⟩
   ·dsimp only
    rw [←hs]
    simp
   ·exact ao (qf [(1000,42)])
 rw [List.drop_eq_nil_of_le (by omega)] at hs
 obtain rfl:T=Q:=by rw [←hs];simp
 clear hTl
 repeat' (first
  | refine ah ?_ ?_
  | refine af ?_
  | exact ai|refine ae fun hb=>?_)
 refine fC 5 1 1001 148 (Ii d) rfl rfl rfl rfl ?_
 refine ak (fun y:Nat×List Nd=>y.1≤s.needs.length∧y.2.length≤y.1∧y.2++(s.needs.drop y.1).filter (fun n=>!decide (n.proc=p))=N) (fun y=>bH [2,3,4,5,1000,1001] [(2,.c (.ptr 2 0)),(3,.c (.ptr 3 0)),(4,.c (.ptr 4 0)),(5,.c (.ptr 5 0)),(11,.i y.1)] [(2,.box 92 (s.d d)),(3,.box 23 [.sc (.int .i64 p.site),.sc (.int .i64 p.inc),.sc (.int .i64 p.num)]),(4,.box 92 [.sc (.slice none 0 0),.sc (.slice none 0 0)]),(5,.box 92 [.own 1000,.own 1001]),(1000,.arr 165 ji T),(1001,.arr 148 (Ii d) y.2)]) (fun y=>s.needs.length-y.1) (0,[]) ⟨Nat.zero_le _,Nat.le_refl _,hN⟩ (by exact ao (qf [])) ?_
 clear hN
 rintro ⟨i,M⟩ ⟨hi,hMl,hs⟩
 dsimp only at *
 by_cases hlt:i<s.needs.length
 ·obtain ⟨x,hx⟩:∃x,s.needs[i]? = some x:=⟨_,List.getElem?_eq_getElem hlt⟩
  have ex:s.needs[i]=x:=(List.getElem?_eq_some_iff.1 hx).2
  rw [List.drop_eq_getElem_cons hlt,ex,List.filter_cons] at hs
  by_cases hp:x.proc=p
  ·rw [decide_eq_true hp,if_neg (by decide)] at hs
   repeat' (first
    | refine ah ?_ ?_
    | refine af ?_
    | exact ai|(refine ae fun hb=>?_;first|(exact absurd hp hb)|skip))
   refine ⟨(i+1,M),⟨by dsimp only;omega,by dsimp only;omega,hs⟩,by dsimp only;omega,?_⟩
   exact ao (qf [])
  ·rw [decide_eq_false hp,if_pos (by decide)] at hs
   repeat' (first
    | refine ah ?_ ?_
    | (refine aa 8 rfl ?_;refine aM (aj rfl rfl (ax rfl rfl) (aB [x] rfl rfl rfl rfl) rfl aC aC) rfl rfl rfl ?_)
    | refine af ?_
    | exact ai|(refine ae fun hb=>?_;first|(exact absurd hb hp)|skip))
   refine ⟨(i+1,M++[x]),⟨by dsimp only;omega,by simp;omega,?_⟩,by dsimp only;omega,?_⟩
   ·dsimp only
    rw [←hs]
    simp
   ·exact ao (qf [(1001,67)])
 ·rw [List.drop_eq_nil_of_le (by omega)] at hs
  obtain rfl:M=N:=by rw [←hs];simp
  repeat' (first
   | refine ah ?_ ?_
   | refine af ?_
   | exact ai|refine ae fun hb=>?_
   | (refine aE (qf []) ?_;exact ab))
theorem Ie (d:Nat) (s:Ws) (n:Nat) (hn:n≤1000) (hok:RedOk n s) {R:List Pr×Ws} (hR:oQ n s=R):FSpec prog 39 [s.a d] [] [] (.tup [.one (.sl iz R.1),.one (.sl iz (cf R.2))]) []:=by
 refine aX func39 ?_
 have hv:=hok.v
 have kV:=oa d s
 rw [hv] at kV
 obtain ⟨F,hF⟩:∃F,iJ s=F:=⟨_,rfl⟩
 have kF:=FZ d s hF
 repeat' (first
  | refine ah ?_ ?_
  | (refine aa 9 rfl ?_;first
   | (refine cB [] (kV) ?_)
   | (refine cC [] (kF) ?_))
  | refine af ?_
  | exact ai|refine ae fun hb=>?_)
 refine cc 4 1000 23 iz rfl rfl rfl ?_
 refine ak (fun y:Nat×Ws×List Pr×List Pr=>iJ y.2.1=y.2.2.1∧RedOk y.1 y.2.1∧y.2.2.2.length+y.1≤1000∧(y.2.2.2++(oQ y.1 y.2.1).1,(oQ y.1 y.2.1).2)=R) (fun y=>bH [1,1000] [(1,.c (.ptr 1 0)),(4,.c (.own 1000)),(5,.c (.sl iz y.2.2.1))] [(1,.box 92 (y.2.1.d d)),(1000,.arr 23 iz y.2.2.2)]) (fun y=>y.1) (n,s,F,[]) ⟨hF,hok,by dsimp only;simp;omega,by rw [←hR];simp⟩ (by exact ao (qf [])) ?_
 clear hR hok kF hF kV hv s F hn n
 rintro ⟨m,s,F,T⟩ ⟨hF,hok,hT,hs⟩
 dsimp only at *
 have hv:=hok.v
 obtain ⟨h1,h2,h3,h8⟩:=gU hv
 cases F with
 | nil =>
  rw [yK hF] at hs
  obtain rfl:R=(T,s):=by rw [←hs];simp
  have kP:=vV d s (by omega) (by omega) h3
  repeat' (first
   | refine ah ?_ ?_
   | refine aa 9 rfl (cC [] (kP) ?_)
   | refine af ?_
   | exact ai|refine ae fun hb=>?_
   | (refine iG (qf []) ?_;exact ab))
 | cons p l =>
  cases m with
  | zero=>rw [hok.2] at hF;cases hF
  | succ m =>
   have hnx:=hok.2 p l hF
   rw [uX hF] at hs
   obtain ⟨W,hW⟩:∃W,Dc s p=W:=⟨_,rfl⟩
   have kW:=F0 d s p (by omega) (by omega) hW
   rw [hW] at hs hnx
   obtain ⟨F,hF2⟩:∃F,iJ W=F:=⟨_,rfl⟩
   have kF:=FZ d W hF2
   have h0:(p :: l)[(0:Int).toNat]? = some p:=rfl
   have hl:0<(p :: l).length:=by simp
   repeat' (first
    | refine ah ?_ ?_
    | (refine aa 8 rfl ?_;refine aM (aj rfl rfl (ax rfl rfl) (aB [p] rfl rfl rfl rfl) rfl aC aC) rfl rfl rfl ?_)
    | (refine aa 9 rfl ?_;first
     | (refine cC [] (kW) ?_)
     | (refine cC [] (kF) ?_))
    | refine af ?_
    | exact ai|refine ae fun hb=>?_)
   refine ⟨(m,W,F,T++[p]),⟨hF2,hnx,by simp;omega,?_⟩,by dsimp only;omega,?_⟩
   ·dsimp only
    rw [←hs]
    simp
   ·exact ao (qf [(1000,21)])
end Go.Proofs.YtdaajdflefnjfaaGreat
