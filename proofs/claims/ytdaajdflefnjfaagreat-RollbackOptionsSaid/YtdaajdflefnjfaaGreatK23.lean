/- Part 23 of 24 of the proof of rollbackOptions_holds (no condition). -/
import Derived.Test.YtdaajdflefnjfaaGreatK22
import Derived.Laws.BitsAllLaws
import Derived.LoopN
set_option linter.unusedVariables false
set_option linter.unusedSimpArgs false
set_option maxRecDepth 100000
set_option maxHeartbeats 64000000
namespace Go.Proofs.YtdaajdflefnjfaaGreat
open Go.RowKit Go.Proofs.Tryz
theorem Ik (d:Nat) (p:Pc) (g:Lg) (kind label:Int) (hk:(kind=0∧∃A,bU p.led label=(g,A,0))∨(kind≠0∧g=Lg.zero)) (hg:g.entries.length≤p.led.entries.length) (h72:p.led.entries.length≤72) (hc:0≤p.cost∧p.cost≤1000) {R:Opn} (hR:Hc p g label=R):FSpec prog 28 [p.a d,mb kind,mb label] [] [] (.v R.a) []:=by
 refine bJ func28 ?_
 unfold Hc vW at hR
 obtain ⟨E,hE⟩:∃E,p.led.entries.drop g.entries.length=E:=⟨_,rfl⟩
 have hEl:E.length≤72:=by rw [←hE];simp;omega
 have hE2:p.led.entries.drop ((g.entries.length:Int)).toNat=E:=by rw [Int.toNat_natCast];exact hE
 have hEl2:(p.led.entries.length:Int)-g.entries.length+1=(E.length:Int)+1:=by
  have:E.length=p.led.entries.length-g.entries.length:=by rw [←hE];simp
  omega
 rw [hE,hEl2] at hR
 have hmul : -9223372036854775808≤p.cost*((E.length:Int)+1)∧p.cost*((E.length:Int)+1)≤9223372036854775807:=by
  obtain ⟨k,hk⟩:∃k:Int,(E.length:Int)+1=k:=⟨_,rfl⟩
  rw [hk]
  have k1:0≤k:=by omega
  have k2:k≤73:=by omega
  have m1:=Int.mul_nonneg hc.1 k1
  have m2:p.cost*k≤1000*73:=Int.mul_le_mul hc.2 k2 k1 (by omega)
  omega
 obtain ⟨B,hB⟩:∃B,(bif p.waiting then (cY p.req.expr).map (·.name) else [])=B:=⟨_,rfl⟩
 obtain ⟨N,hN⟩:∃N,fG (fG [] (E.map (·.name))) B=N:=⟨_,rfl⟩
 have h8:=dy p.req.expr
 have hBl:B.length≤8:=by
  rw [←hB]
  cases p.waiting with
  | true=>simp;omega
  | false=>simp
 have hNs:fb (fh (E.map (·.name)++B))=N:=by rw [C5,uG,hN]
 have hNl:N.length≤80:=by
  rw [←hNs]
  have:=jR ((fh (E.map (·.name)++B)).map bs)
  simp [fb,fh] at this ⊢
  omega
 rw [hB,hN] at hR
 obtain ⟨M,hM⟩:∃M:List Tm,N.map (fun n=>(⟨n,ay g.entries n⟩:Tm))=M:=⟨_,rfl⟩
 rw [hM] at hR
 obtain rfl:R=⟨p.proc,label,p.cost*((E.length:Int)+1),M⟩:=hR.symm
 clear hR hN hE hEl2
 rcases hk with ⟨rfl,A,hU⟩|⟨hk0,hz⟩
 case' inl =>
  have kU:=LQ p.led label hU
  repeat' (first
   | refine af ?_ ?_
   | refine aa 9 rfl (cC [] (kU) ?_)
   | (refine aa 14 rfl ?_;refine sx (cR (z:=(g.entries.length:Int)) rfl rfl rfl rfl (by omega) (by omega) hE2) ?_)
   | refine en ?_
   | exact ah|(refine ae fun hb=>?_;first|(exact absurd rfl hb)|skip))
 case' inr =>
  have he1:g.entries=[]:=by rw [hz];rfl
  have he2:g.saves=[]:=by rw [hz];rfl
  have hE2:p.led.entries.drop (((0:Nat):Int)).toNat=E:=by rw [←hE2,he1];rfl
  repeat' (first
   | refine af ?_ ?_
   | (refine aa 14 rfl ?_;refine sx (cR (z:=((0:Nat):Int)) rfl rfl rfl rfl (by omega) (by simp) hE2) ?_)
   | refine en ?_
   | exact ah|(refine ae fun hb=>?_;first|(exact absurd hb hk0)|skip))
 all_goals
  refine dS 9 1000 9 dU rfl rfl rfl ?_
  refine ao (fun i=>i≤E.length) (fun i=>cy [3,6,7,1000] [(2,.v (mb label)),(3,.c (.ptr 3 0)),(6,.c (.ptr 6 0)),(7,.c (.ptr 7 0)),(8,.c (.sl iI E)),(9,.c (.own 1000)),(34,.c (.sl iI E)),(35,.i E.length),(36,.i i)] [(3,.box 38 (p.d d)),(6,.box 41 [.sc (.int .i64 0),.sc (.int .i64 0),.sc (.int .i64 0),.sc (.int .i64 0),.sc (.int .i64 0),.sc (.slice none 0 0)]),(7,.box 27 [.sl iI g.entries,.sl iF g.saves]),(1000,.arr 9 dU ((E.take i).map (·.name)))]) (fun i=>E.length-i) 0 (Nat.zero_le _) (by first|(rw [he1,he2];exact ap (qf []))|exact ap (qf [])) ?_
  intro i hi
  by_cases hlt:i<E.length
  case pos =>
   obtain ⟨e,he⟩:∃e,E[i]? = some e:=⟨_,List.getElem?_eq_getElem hlt⟩
   have ee:E[i]=e:=(List.getElem?_eq_some_iff.1 he).2
   have hnx:(E.take i).map (·.name)++[e.name]=(E.take (i+1)).map (·.name):=by rw [List.take_succ_eq_append_getElem hlt,ee];simp
   have hTl:((E.take i).map (·.name)).length≤72:=by simp;omega
   generalize (E.take i).map (·.name)=T at *
   repeat' (first
    | refine af ?_ ?_
    | (refine aa 8 rfl ?_;refine bc (ak rfl rfl (aI rfl rfl) (aO [e.name] rfl rfl rfl rfl) rfl aJ aJ) rfl rfl rfl ?_)
    | refine en ?_
    | exact ah|refine ae fun hb=>?_)
   refine ⟨i+1,hlt,by omega,?_⟩
   rw [←hnx]
   exact ap (qf [(1000,44)])
  rw [List.take_of_length_le (by omega)]
  obtain ⟨T,hT⟩:∃T,E.map (·.name)=T:=⟨_,rfl⟩
  have hTl:T.length≤72:=by rw [←hT];simp;omega
  rw [hT] at hNs ⊢
  clear hT
  cases hw:p.waiting
  case' true =>
   rw [hw,cond_true] at hB
   obtain ⟨Q,hQ⟩:∃Q,cY p.req.expr=Q:=⟨_,rfl⟩
   rw [hQ] at hB h8
   have kA:=Kc d p.req.expr hQ
   repeat' (first
    | refine af ?_ ?_
    | refine aa 9 rfl (cC [] (kA) ?_)
    | refine en ?_
    | exact ah|(refine ae fun hb=>?_;first|(cases hw.symm.trans hb;done)|skip))
   refine ao (fun i=>i≤Q.length) (fun i=>cy [3,6,7,1000] [(2,.v (mb label)),(3,.c (.ptr 3 0)),(6,.c (.ptr 6 0)),(7,.c (.ptr 7 0)),(8,.c (.sl iI E)),(9,.c (.own 1000)),(51,.c (.sl cL Q)),(52,.i Q.length),(53,.i i)] [(3,.box 38 (p.d d)),(6,.box 41 [.sc (.int .i64 0),.sc (.int .i64 0),.sc (.int .i64 0),.sc (.int .i64 0),.sc (.int .i64 0),.sc (.slice none 0 0)]),(7,.box 27 [.sl iI g.entries,.sl iF g.saves]),(1000,.arr 9 dU (T++(Q.take i).map (·.name)))]) (fun i=>Q.length-i) 0 (Nat.zero_le _) (by rw [List.take_zero,List.map_nil,List.append_nil];exact ap (qf [])) ?_
   intro j hj
   by_cases hlj:j<Q.length
   case pos =>
    obtain ⟨a,ha⟩:∃a,Q[j]? = some a:=⟨_,List.getElem?_eq_getElem hlj⟩
    have ea:Q[j]=a:=(List.getElem?_eq_some_iff.1 ha).2
    have hnx:(T++(Q.take j).map (·.name))++[a.name]=T++(Q.take (j+1)).map (·.name):=by rw [List.take_succ_eq_append_getElem hlj,ea];simp
    have hTl:(T++(Q.take j).map (·.name)).length≤80:=by simp;omega
    generalize T++(Q.take j).map (·.name)=U at *
    repeat' (first
     | refine af ?_ ?_
     | (refine aa 8 rfl ?_;refine bc (ak rfl rfl (aI rfl rfl) (aO [a.name] rfl rfl rfl rfl) rfl aJ aJ) rfl rfl rfl ?_)
     | refine en ?_
     | exact ah|refine ae fun hb=>?_)
    refine ⟨j+1,hlj,by omega,?_⟩
    rw [←hnx]
    exact ap (qf [(1000,61)])
   rw [List.take_of_length_le (by omega),hB]
   have hUl:(T++B).length≤80:=by simp;omega
   generalize T++B=U at *
   have kS:=FE U (by omega)
   have kC:=FF (fh U) (by simp [fh];omega)
   rw [hNs] at kC
   repeat' (first
    | refine af ?_ ?_
    | (refine aa 9 rfl ?_;first
     | (refine cH (qf [(0,1000)]) (kS) ?_)
     | (refine cH (qf [(0,1000)]) (kC) ?_))
    | (refine aa 10 rfl ?_;refine sx (nR rfl rfl rfl (IntWalk.i64_in _ hmul)) ?_)
    | refine en ?_
    | exact ah|refine ae fun hb=>?_)
  case' false =>
   rw [hw,cond_false] at hB
   subst hB
   rw [List.append_nil] at hNs
   have kS:=FE T (by omega)
   have kC:=FF (fh T) (by simp [fh];omega)
   rw [hNs] at kC
   repeat' (first
    | refine af ?_ ?_
    | (refine aa 9 rfl ?_;first
     | (refine cH (qf [(0,1000)]) (kS) ?_)
     | (refine cH (qf [(0,1000)]) (kC) ?_))
    | (refine aa 10 rfl ?_;refine sx (nR rfl rfl rfl (IntWalk.i64_in _ hmul)) ?_)
    | refine en ?_
    | exact ah|(refine ae fun hb=>?_;first|(cases hw.symm.trans hb;done)|skip))
  all_goals
   refine jJ 14 5 1001 31 cL rfl rfl rfl rfl ?_
   refine ao (fun y:Nat×List Tm=>y.1≤N.length∧y.2.length=y.1∧y.2++(N.drop y.1).map (fun n=>(⟨n,ay g.entries n⟩:Tm))=M) (fun y=>cy [6,7,14,1001] [(6,.c (.ptr 6 0)),(7,.c (.ptr 7 0)),(14,.c (.ptr 14 0)),(76,.c (.sl dU N)),(77,.i N.length),(78,.i y.1)] [(6,.box 41 [.sc (.int .i64 0),.sc (.int .i64 0),.sc (.int .i64 0),.sc (.int .i64 0),.sc (.int .i64 0),.sc (.slice none 0 0)]),(7,.box 27 [.sl iI g.entries,.sl iF g.saves]),(14,.box 41 [.sc (.int .i64 p.proc.site),.sc (.int .i64 p.proc.inc),.sc (.int .i64 p.proc.num),.sc (.int .i64 label),.sc (.int .i64 (p.cost*((E.length:Int)+1))),.own 1001]),(1001,.arr 31 cL y.2)]) (fun y=>N.length-y.1) (0,[]) ⟨Nat.zero_le _,rfl,hM⟩ (by exact ap (qf [])) ?_
   clear hM
   rintro ⟨i,Y⟩ ⟨hi,hYl,hs⟩
   dsimp only at *
   by_cases hlt:i<N.length
   ·obtain ⟨n,hn⟩:∃n,N[i]? = some n:=⟨_,List.getElem?_eq_getElem hlt⟩
    have en1:N[i]=n:=(List.getElem?_eq_some_iff.1 hn).2
    rw [List.drop_eq_getElem_cons hlt,en1,List.map_cons] at hs
    obtain ⟨a,ha⟩:∃a,ay g.entries n=a:=⟨_,rfl⟩
    have kH:=LM g n ha
    rw [ha] at hs
    repeat' (first
     | refine af ?_ ?_
     | (refine aa 8 rfl ?_;refine bc (ak rfl rfl (aI rfl rfl) (aO [⟨n,a⟩] rfl rfl rfl rfl) rfl aJ aJ) rfl rfl rfl ?_)
     | refine aa 9 rfl (cB [] (kH) ?_)
     | refine en ?_
     | exact ah|refine ae fun hb=>?_)
    refine ⟨(i+1,Y++[⟨n,a⟩]),⟨by dsimp only;omega,by simp [hYl],?_⟩,by dsimp only;omega,?_⟩
    ·dsimp only
     rw [←hs]
     simp
    ·exact ap (qf [(1001,90)])
   ·rw [List.drop_eq_nil_of_le (by omega)] at hs
    obtain rfl:Y=M:=by rw [←hs];simp
    repeat' (first
     | refine af ?_ ?_
     | refine en ?_
     | exact ah|refine ae fun hb=>?_
     | (refine aP (qf []) ?_;exact ab))
theorem FI (p:Pc) (L:List Int) {O:List Opn} (hg:n8 p.led=true) (hLs:L=p.led.saves.reverse.map (·.label)) (hO:qQ p=O):∀kd:Nat,kd<2→∃row:List Int,[D.sl fk L,D.sl fk [-1]][kd]? = some (.sl fk row)∧(fun k=>if k=0 then 0 else if k=1 then L.length else L.length+1) kd+row.length=(fun k=>if k=0 then 0 else if k=1 then L.length else L.length+1) (kd+1)∧row.length≤L.length+1∧
  ∀(j:Nat) (h:j<row.length),∃g,((((kd:Nat):Int)=0∧∃A,bU p.led row[j]=(g,A,0))∨(((kd:Nat):Int)≠0∧g=Lg.zero))∧g.entries.length≤p.led.entries.length∧O[(fun k=>if k=0 then 0 else if k=1 then L.length else L.length+1) kd+j]? = some (Hc p g row[j])
 | 0,_=>by
  refine ⟨L,rfl,by simp,by omega,fun j h=>?_⟩
  subst hLs
  have hj:j<p.led.saves.reverse.length:=by simpa using h
  obtain ⟨A,hU,hle⟩:=ui hg (s:=p.led.saves.reverse[j]) (List.mem_reverse.1 (List.getElem_mem hj))
  refine ⟨bi p.led p.led.saves.reverse[j].label,.inl ⟨rfl,A,by rw [List.getElem_map];exact hU⟩,hle,?_⟩
  rw [←hO]
  simp only [if_pos,Nat.zero_add]
  unfold qQ
  rw [List.getElem?_append_left (by simpa using hj),List.getElem?_map,List.getElem?_eq_getElem hj,List.getElem_map]
  rfl
 | 1,_=>by
  refine ⟨[-1],rfl,by simp,by simp,fun j h=>?_⟩
  obtain rfl:j=0:=by simpa using h
  refine ⟨Lg.zero,.inr ⟨by decide,rfl⟩,Nat.zero_le _,?_⟩
  rw [←hO,hLs]
  unfold qQ
  simp
 | n+2,h=>absurd h (by omega)
theorem yH (d:Nat) (p:Pc) {R:List Opn} (hR:lC p=R):FSpec prog 9 [p.a d] [] [] (.c (.sl uh R)) []:=by
 refine aA (fun b W=>by kernel_rfl) rfl fun w S ρ vs hS ha=>?_
 refine callsIn_wide.1 (callsIn_of_wp_marks (n:=8) func9 rfl trivial ?_)
 refine wpIn_wide.2 ?_
 have hr0:=yu (nt:=80) hS ha rfl (Nat.le_of_ble_eq_true rfl)
 generalize hc0:({ w0:=w,S:=S,X:=fun _=>False,nt:=80,K:=[],ρ0:=ρ,hS:=hS,hX:=fun _ h=>h.elim }:Ctx)=c0 at hr0
 have cS:c0.S=S:=by rw [←hc0]
 have cW:c0.w0=w:=by rw [←hc0]
 have cX:∀b,¬c0.X b:=by rw [←hc0];exact fun _ h=>h
 have cN:c0.nt=80:=by rw [←hc0]
 have cK:c0.K=[]:=by rw [←hc0]
 have cD:c0.dfr=[]:=by rw [←hc0]
 refine (?_:GW _ c0 _ _ _) _ _ _ hr0
 clear hr0 ha
 obtain ⟨QM,hQM⟩:∃QM,bodyPostM Fence.wide 8 prog f9 (fun e w'=>∃v,e=Ending.returned v∧Below w.heap.size w w'∧(TV.c (.sl uh R)).rep w' (Gr S w.heap.size w') ρ v)=QM:=⟨_,rfl⟩
 have hF:∀s' ρ' a' w',qa prog f9 [] (TV.c (.sl uh R)) [] .ret s'→Rp c0 s' ρ' a' w'→QM .ret a' w':=fun s' ρ' a' w' hf hr=>by
  obtain ⟨v,hv,hrep⟩:=Bt hf hr rfl ρ
  have hd:=hr.dfr
  rw [cD] at hd
  rw [←hQM]
  show LeavesInM _ _ _ _ _ _ a'.defers _ _
  rw [hd]
  have h3:=hr.frm
  rw [cW] at h3
  refine ⟨v,hv,v,rfl,⟨h3.os,h3.tape,h3.output,h3.size,fun b hb=>h3.keep b hb (cX b)⟩,hrep.mono (fun b hb=>⟨⟨hb.2,?_⟩,rfl⟩) fun _ _=>rfl⟩
  have:=hb.1
  rw [cS,cW] at this
  exact this
 rw [hQM]
 unfold lC at hR
 obtain ⟨v,hv⟩:∃v,fo p.proc=v:=⟨_,rfl⟩
 obtain ⟨g,hg⟩:∃g,n8 p.led=g:=⟨_,rfl⟩
 obtain ⟨q,hq⟩:∃q,qo p.req=q:=⟨_,rfl⟩
 have kV:FSpec prog 24 [p.proc.a] [] [] (.b v) []:=hv▸FB p.proc
 have kG:FSpec prog 25 [.ag [.sl iI p.led.entries,.sl iF p.led.saves]] [] [] (.b g) []:=Bv p.led.entries p.led.saves hg
 have kQ:FSpec prog 26 [p.req.a d] [] [] (.b q) []:=FC d p.req hq
 rw [hv,hg,hq] at hR
 by_cases hA:v=true∧(1≤p.cost∧p.cost≤1000)∧g=true∧(p.waiting=true→q=true)
 case neg =>
  obtain rfl:R=[]:=by
   rw [←hR]
   cases hh:v && decide (1≤p.cost) && decide (p.cost≤1000) && g && (!p.waiting || q) with
   | false=>rfl
   | true =>
    simp only [Bool.and_eq_true,Bool.or_eq_true,decide_eq_true_eq,Bool.not_eq_true'] at hh
    exact absurd ⟨hh.1.1.1.1,⟨hh.1.1.1.2,hh.1.1.2⟩,hh.1.2,fun hw=>by
     rcases hh.2 with h|h
     ·rw [hw] at h;cases h
     ·exact h⟩ hA
  clear hR hv hg hq
  refine nc cN cK hF ?_
  repeat' (first
   | refine af ?_ ?_
   | refine en ?_
   | exact ah|refine ae fun hb=>?_)
  refine yv (nc cN cK hF ?_)
  cases v with
  | false =>
   repeat' (first
    | refine af ?_ ?_
    | refine aa 9 rfl (cB [] (kV) ?_)
    | refine en ?_
    | exact ah|refine ae fun hb=>?_
    | (refine aP (qf []) ?_;exact ab))
  | true =>
   by_cases hc:p.cost<1
   ·repeat' (first
     | refine af ?_ ?_
     | refine aa 9 rfl (cB [] (kV) ?_)
     | refine en ?_
     | exact ah|refine ae fun hb=>?_
     | (refine aP (qf []) ?_;exact ab))
   by_cases hc2:1000<p.cost
   ·repeat' (first
     | refine af ?_ ?_
     | refine aa 9 rfl (cB [] (kV) ?_)
     | refine en ?_
     | exact ah|refine ae fun hb=>?_
     | (refine aP (qf []) ?_;exact ab))
   cases g with
   | false =>
    repeat' (first
     | refine af ?_ ?_
     | (refine aa 9 rfl ?_;first
      | (refine cB [] (kV) ?_)
      | (refine cB [] (kG) ?_))
     | refine en ?_
     | exact ah|refine ae fun hb=>?_
     | (refine aP (qf []) ?_;exact ab))
   | true =>
    cases hw:p.waiting with
    | false=>exact absurd ⟨rfl,⟨by omega,by omega⟩,rfl,fun h=>by rw [hw] at h;cases h⟩ hA
    | true =>
     cases q with
     | true=>exact absurd ⟨rfl,⟨by omega,by omega⟩,rfl,fun _=>rfl⟩ hA
     | false =>
      repeat' (first
       | refine af ?_ ?_
       | (refine aa 9 rfl ?_;first
        | (refine cB [] (kV) ?_)
        | (refine cB [] (kG) ?_))
       | refine en ?_
       | exact ah|refine ae fun hb=>?_)
      refine nc cN cK hF ?_
      repeat' (first
       | refine af ?_ ?_
       | refine aa 9 rfl (cB [] (kQ) ?_)
       | refine en ?_
       | exact ah|(refine ae fun hb=>?_;first|(cases hw.symm.trans hb;done)|skip)
       | (refine aP (qf []) ?_;exact ab))
 obtain ⟨rfl,⟨hc1,hc2⟩,rfl,hwq⟩:=hA
 rw [decide_eq_true hc1,decide_eq_true hc2,show (!p.waiting || q)=true by cases hw:p.waiting with|false=>rfl|true=>rw [hwq hw];rfl] at hR
 have hR:(bif (qQ p).all nk then qQ p else [])=R:=hR
 obtain ⟨h72,h4⟩:=gh hg
 refine nc cN cK hF ?_
 repeat' (first
  | refine af ?_ ?_
  | refine en ?_
  | exact ah|refine ae fun hb=>?_)
 refine yv (nc cN cK hF ?_)
 repeat' (first
  | refine af ?_ ?_
  | (refine aa 9 rfl ?_;first
   | (refine cB [] (kV) ?_)
   | (refine cB [] (kG) ?_))
  | refine en ?_
  | exact ah|refine ae fun hb=>?_)
 refine CW (cy [1] [(1,.c (.ptr 1 0))] [(1,.box 38 (p.d d))]) cN cK hF ?_ ?_
 ·cases hw:p.waiting with
  | true =>
   have hq1:=hwq hw
   subst hq1
   repeat' (first
    | refine af ?_ ?_
    | refine aa 9 rfl (cB [] (kQ) ?_)
    | refine en ?_
    | exact ah|(refine ae fun hb=>?_;first|(cases hw.symm.trans hb;done)|skip))
   exact ap (qf [])
  | false =>
   repeat' (first
    | refine af ?_ ?_
    | refine en ?_
    | exact ah|(refine ae fun hb=>?_;first|(cases hw.symm.trans hb;done)|skip))
   exact ap (qf [])
 refine nc cN cK hF ?_
 repeat' (first
  | refine af ?_ ?_
  | (refine aa 12 rfl ?_;refine sx (tB rfl rfl rfl) ?_)
  | refine en ?_
  | exact ah|refine ae fun hb=>?_)
 refine Fl (nc cN cK hF ?_)
 have kB:=LI p.led.saves
 repeat' (first
  | refine af ?_ ?_
  | refine aa 9 rfl (cH (qf [(0,1045)]) (kB) ?_)
  | refine en ?_
  | exact ah|refine ae fun hb=>?_)
 refine LJ cN cK (s':=cy [1,3,40,1045] [(1,.c (.ptr 1 0)),(3,.c (.ptr 3 0)),(45,.c (.clo 66 [1045]))] [(1,.box 38 (p.d d)),(3,.box 75 [.sc (.slice none 0 0),.slb 40 1]),(40,.box 3 [.sc (.int .i64 (-1))]),(1045,.box 25 [.sl iF p.led.saves])]) (by exact ap (qf [])) ?_
 clear kB
 intro ρ1 a1 w1 hr
 generalize hsA:cy [1,3,40,1045] [(1,.c (.ptr 1 0)),(3,.c (.ptr 3 0)),(45,.c (.clo 66 [1045]))] [(1,.box 38 (p.d d)),(3,.box 75 [.sc (.slice none 0 0),.slb 40 1]),(40,.box 3 [.sc (.int .i64 (-1))]),(1045,.box 25 [.sl iF p.led.saves])]=sA at hr
 have i1:sA.h 1=some (.box 38 (p.d d)):=by rw [←hsA];rfl
 have i3:sA.h 3=some (.box 75 [.sc (.slice none 0 0),.slb 40 1]):=by rw [←hsA];rfl
 have i40:sA.h 40=some (.box 3 [.sc (.int .i64 (-1))]):=by rw [←hsA];rfl
 have iB:sA.h 1045=some (.box 25 [.sl iF p.led.saves]):=by rw [←hsA];rfl
 have u1:sA.t 1 = .c (.ptr 1 0):=by rw [←hsA];rfl
 have u3:sA.t 3 = .c (.ptr 3 0):=by rw [←hsA];rfl
 have u45:sA.t 45 = .c (.clo 66 [1045]):=by rw [←hsA];rfl
 clear hsA
 obtain ⟨gB,vB,eB,bB,rB,_⟩:=hr.hp 1045 _ iB
 obtain ⟨AB,capB,rfl,lB,RB⟩:∃A cap,vB=[.slice A p.led.saves.length cap]∧(p.led.saves.length≤cap∧cap≤maxLen)∧RowsAt iF w1 (Fz c0 sA.h ρ1 w1) A p.led.saves:=by
  match vB,rB with
  | [_],⟨⟨A,cap,rfl,h1,h2⟩,_⟩=>exact ⟨A,cap,rfl,h1,h2⟩
 obtain ⟨g40,v40,e40,b40,r40,_⟩:=hr.hp 40 _ i40
 obtain rfl:v40=[.int .i64 (-1)]:=by
  match v40,r40 with
  | [_],⟨h,_⟩=>rw [show _=_ from h]
 obtain ⟨g3,v3,e3,b3,r3,_⟩:=hr.hp 3 _ i3
 obtain rfl:v3=[.slice none 0 0,.slice (some ⟨g40,0,none⟩) 1 1]:=by
  match v3,r3 with
  | [x,y],⟨h,⟨g',h1,h2⟩,_⟩ =>
   rw [e40] at h1
   injection h1 with h1
   injection h1 with h1
   injection h1 with h1
   subst h1
   rw [show x=_ from h,h2]
 obtain ⟨g1,v1,e1,b1,r1,o1⟩:=hr.hp 1 _ i1
 have n13:g1≠g3:=fun h=>by have:=hr.dis 1 3 _ _ g1 i1 i3 (by rw [e1];rfl) (by rw [e3,h];rfl);cases this
 have nB3:gB≠g3:=fun h=>by have:=hr.dis 1045 3 _ _ gB iB i3 (by rw [eB];rfl) (by rw [e3,h];rfl);cases this
 have n403:g40≠g3:=fun h=>by have:=hr.dis 40 3 _ _ g40 i40 i3 (by rw [e40];rfl) (by rw [e3,h];rfl);cases this
 have n401:g40≠g1:=fun h=>by have:=hr.dis 40 1 _ _ g40 i40 i1 (by rw [e40];rfl) (by rw [e1,h];rfl);cases this
 have l1:=b1.lt
 have l3:=b3.lt
 have l40:=b40.lt
 have lB':=bB.lt
 have t3:a1.tmps.getD 3 undef = .pointer (some ⟨g3,0,none⟩):=by
  have h:=hr.tmp 3
  rw [u3] at h
  obtain ⟨g',h1,h2⟩:=h
  rw [e3] at h1
  injection h1 with h1
  injection h1 with h1
  injection h1 with h1
  rw [h2,h1]
 have t1:a1.tmps.getD 1 undef = .pointer (some ⟨g1,0,none⟩):=by
  have h:=hr.tmp 1
  rw [u1] at h
  obtain ⟨g',h1,h2⟩:=h
  rw [e1] at h1
  injection h1 with h1
  injection h1 with h1
  injection h1 with h1
  rw [h2,h1]
 have t45:a1.tmps.getD 45 undef = .func (.func 66) #[] #[.pointer (some ⟨gB,0,none⟩)]:=by
  have h:=hr.tmp 45
  rw [u45] at h
  obtain ⟨cv,h1,h2⟩:=h
  match cv,h2 with
  | [x],⟨h3,_⟩=>rw [h1,show x=_ from h3,eB]
 have hsz:a1.tmps.size=80:=hr.siz.trans cN
 have hz3:∀b,Fz c0 sA.h ρ1 w1 b→b≠g3∧b≠g1∧b<w1.heap.size:=fun b hb=>⟨fun h=>hb.2.2 3 _ i3 (by rw [e3,h];rfl),fun h=>hb.2.2 1 _ i1 (by rw [e1,h];rfl),hb.2.1⟩
 refine wp_block (wpIn_wide.1 (wpIn_rangeFunc_ownH (n:=8) rfl (by decide) (gf:=66) (lb:=#[.pointer (some ⟨gB,0,none⟩)]) t45 trivial (enters_of func66 (by kernel_rfl) rfl)
  (CV 7 (by decide) gB p.led.saves (by omega) (fun b=>b<w1.heap.size∧b≠g3) (Fz c0 sA.h ρ1 w1) w1 AB capB (bB.cell 0) RB (fun b hb=>⟨⟨(hz3 b hb).2.2,(hz3 b hb).1⟩,(hz3 b hb).2.2⟩) ⟨lB',nB3⟩ lB')
  (fun h k b hb=>(k b hb).trans (h b hb)) (fun W l o o' hl _ _ _ b hb=>World.putObj_heap_other (by have:=hb.1;omega)) (Below.refl _ _) (fun _=>rfl)
  (fun pre W=>(∃v,Blk W g3 75 #[v,.slice (some ⟨g40,0,none⟩) 1 1]∧W.ownsRow w1.heap.size 3 1 v pre.length (pre.map fun x=>.int .i64 x.2.label))∧KpT (fun b=>b<w1.heap.size∧b≠g3) w1 W∧W.os=w1.os∧W.tape=w1.tape∧W.output=w1.output∧w1.heap.size≤W.heap.size)
  (fun _ _ _=>False)
  ?hI (fun _ _ _ _ _ hs _ _=>hs) ⟨⟨.slice none 0 0,b3,rfl,.inl ⟨rfl,rfl⟩⟩,fun _ _=>rfl,rfl,rfl,rfl,Nat.le_refl _⟩
  (fun x a' W=>a'.defers=[]∧a'.tmps.size=80∧a'.tmps.getD 3 undef = .pointer (some ⟨g3,0,none⟩)∧∃Bx,w1.heap.size≤Bx∧a'.tmps.getD 5 undef = .pointer (some ⟨Bx,0,none⟩)∧Blk W Bx 80 #[.int .i64 x.2.label,.int .i64 x.2.at_])
  ?hAx ?assign ?body ?done ?stop))
 case stop=>exact fun D c pre W _ _ h _=>h.elim
 case hI =>
  rintro pre W W' row ⟨⟨v,hv,ho⟩,hk,h1,h2,h3,h4⟩ hg hrow
  have hne:∀b cs t z,W.heap[b]? = some (.cells cs t z)→some b≠row:=fun b cs t z hb e=>by
   obtain ⟨_,o,ho,hc⟩:=hrow b e.symm
   rw [hb] at ho
   cases ho
   cases hc
  refine ⟨⟨v,(hg.block g3 hv.lt (hne _ _ _ _ hv)).trans hv,oD ho fun b hb hlt=>?_⟩,fun b hb=>(hg.block b (by have:=hb.1;omega) fun e=>by have:=(hrow b e.symm).1;have:=hb.1;omega).trans (hk b hb),hg.os.trans h1,hg.tape.trans h2,hg.output.trans h3,Nat.le_trans h4 hg.size⟩
  obtain ⟨_,cur,hcur⟩:=ng ho hb
  exact hg.block b hlt (hne _ _ _ _ hcur)
 case hAx =>
  rintro x a' _ W W' row ⟨h1,h2,h3,Bx,h4,h5,h6⟩ hg hrow
  refine ⟨h1,h2,h3,Bx,h4,h5,(hg.block Bx h6.lt fun e=>?_).trans h6⟩
  obtain ⟨_,o,ho,hc⟩:=hrow Bx e.symm
  rw [show W.heap[Bx]? = _ from h6] at ho
  cases ho
  cases hc
 case assign =>
  rintro l pre x W K ⟨⟨v,hv,ho⟩,hk,q1,q2,q3,q4⟩ hK
  have hz:(#[46,47]:Array Nat).zip (Fk x) = #[(46,.int .i64 x.1),(47,.agg #[.int .i64 x.2.label,.int .i64 x.2.at_])]:=by first|rfl|simp [Fk,Array.zip]
  rw [hz]
  simp only [List.foldl_toArray',List.foldl_cons,List.foldl_nil,List.size_toArray,List.length_cons,List.length_nil]
  obtain ⟨A0,hA0⟩:∃A0,(a1.tmps.setIfInBounds 46 (.int .i64 x.1)).setIfInBounds 47 (.agg #[.int .i64 x.2.label,.int .i64 x.2.at_])=A0:=⟨_,rfl⟩
  have z1:A0.size=80:=by rw [←hA0];simp [hsz]
  have z2:A0.getD 3 undef = .pointer (some ⟨g3,0,none⟩):=by rw [←hA0,sW,sW];simp [t3]
  have z3:A0.getD 47 undef = .agg #[.int .i64 x.2.label,.int .i64 x.2.at_]:=by rw [←hA0,sW];simp [hsz]
  rw [hA0]
  have hr2:Rp { w0:=W,S:=fun b=>b<W.heap.size,X:=fun _=>False,nt:=80,K:=[3],ρ0:=fun _=>.pointer (some ⟨g3,0,none⟩),hS:=fun _ h=>h,hX:=fun _ h=>h.elim } (cy [3] [(3,.c (.ptr 3 0)),(47,.v (.ag [.sc (.int .i64 x.2.label),.sc (.int .i64 x.2.at_)]))] []) (fun _=>.pointer (some ⟨g3,0,none⟩)) { tmps:=A0,defers:=[] } W :=
   ⟨rfl,z1,Frx.refl _ _,fun t=>mm (ts:=[(3,.c (.ptr 3 0)),(47,.v (.ag [.sc (.int .i64 x.2.label),.sc (.int .i64 x.2.at_)]))]) ⟨⟨g3,rfl,z2⟩,⟨[_,_],z3,rfl,rfl,trivial⟩,trivial⟩ t,fun k b hk=>(by cases hk),fun k b g hk=>(by cases hk),fun k k' b b' g hk=>(by cases hk),fun k hk=>⟨rfl,by rw [List.mem_singleton.1 hk];rfl⟩,Ae rfl⟩
  refine wpIn_mono (oB (nt:=80) (K:=fun s'=>s'.t 3 = .c (.ptr 3 0)∧s'.t 5 = .c (.ptr 5 0)∧s'.h 5=some (.box 80 [.sc (.int .i64 x.2.label),.sc (.int .i64 x.2.at_)])) rfl rfl rfl ?_ hr2) ?_
  ·repeat' (first
    | refine af ?_ ?_
    | refine en ?_
    | exact ah|refine ae fun hb=>?_)
   exact ⟨rfl,rfl,rfl⟩
  rintro e a' W' ⟨rfl,s',ρ',⟨c3,c5,c6⟩,hr'⟩
  have hfr:=hr'.frm
  have hkp:∀b,b<W.heap.size→W'.heap[b]? = W.heap[b]?:=fun b hb=>hfr.keep b hb id
  obtain ⟨gx,vx,ex,bx,rx,_⟩:=hr'.hp 5 _ c6
  obtain rfl:vx=[.int .i64 x.2.label,.int .i64 x.2.at_]:=by
   match vx,rx with
   | [_,_],⟨h,h',_⟩=>rw [show _=_ from h,show _=_ from h']
  refine hK a' W' ⟨hfr.size,fun k o _ hko _=>(hkp k (Array.getElem?_eq_some_iff.1 hko).1).trans hko⟩ (fun b hb=>hkp b (Nat.lt_of_lt_of_le hb.1 q4)) ⟨⟨v,(hkp g3 hv.lt).trans hv,oD ho fun b _ hlt=>hkp b hlt⟩,fun b hb=>(hkp b (Nat.lt_of_lt_of_le hb.1 q4)).trans (hk b hb),hfr.os.trans q1,hfr.tape.trans q2,hfr.output.trans q3,Nat.le_trans q4 hfr.size⟩ ⟨hr'.dfr,hr'.siz,?_,gx,?_,?_,bx⟩
  ·have h:=hr'.tmp 3
   rw [c3] at h
   obtain ⟨g',h1,h2⟩:=h
   rw [(hr'.ent 3 (by simp)).1] at h1
   injection h1 with h1
   injection h1 with h1
   injection h1 with h1
   rw [h2,h1]
  ·rcases hr'.inb 5 _ gx c6 (by rw [ex];rfl) with h|h
   ·exact h.elim
   ·exact Nat.le_trans q4 h
  ·have h:=hr'.tmp 5
   rw [c5] at h
   obtain ⟨g',h1,h2⟩:=h
   rw [ex] at h1
   injection h1 with h1
   injection h1 with h1
   injection h1 with h1
   rw [h2,h1]
 case body =>
  rintro l pre x a' W hl ⟨r,hrec⟩ ⟨⟨v,hv,ho⟩,hk,q1,q2,q3,q4⟩ ⟨hd,hs,h3,Bx,hBx,h5,hbx⟩ hlen
  have hvb:∀b,kb v=some b→w1.heap.size≤b∧∃cur,W.heap[b]? = some (.cells cur 3 (0,0)):=fun b hb=>ng ho hb
  have hvo:v.oneCell'=true:=by
   rcases ho.2 with ⟨rfl,_⟩|⟨g,cap,cur,rfl,_⟩ <;> rfl
  have tf:∀b,kb v=some b→b≠Bx:=fun b hb e=>by
   obtain ⟨_,cur,hcur⟩:=hvb b hb
   rw [e,show W.heap[Bx]? = _ from hbx] at hcur
   injection hcur with hcur
   injection hcur with _ hcur
   exact absurd hcur (by decide)
  obtain ⟨ρb,hρb⟩:∃ρb:Nat→Value,(fun k=>bif k.beq 3 then .pointer (some ⟨g3,0,none⟩) else bif k.beq 5 then .pointer (some ⟨Bx,0,none⟩) else v)=ρb:=⟨_,rfl⟩
  have p3:ρb 3 = .pointer (some ⟨g3,0,none⟩):=by rw [←hρb];rfl
  have p5:ρb 5 = .pointer (some ⟨Bx,0,none⟩):=by rw [←hρb];rfl
  have pv:ρb 1000=v:=by rw [←hρb];rfl
  clear hρb
  have hll:(pre.map fun x=>x.2.label).length=pre.length:=List.length_map _
  have hg3B:g3≠Bx:=by omega
  have hcas:∀(k:Nat) (b:Box),(cy [3,5,1000] [(3,.c (.ptr 3 0)),(5,.c (.ptr 5 0))] [(3,.box 75 [.own 1000,.sc (.slice (some ⟨g40,0,none⟩) 1 1)]),(5,.box 80 [.sc (.int .i64 x.2.label),.sc (.int .i64 x.2.at_)]),(1000,.arr 3 fk (pre.map fun x=>x.2.label))]).h k=some b→(k=3∧b = .box 75 [.own 1000,.sc (.slice (some ⟨g40,0,none⟩) 1 1)])∨(k=5∧b = .box 80 [.sc (.int .i64 x.2.label),.sc (.int .i64 x.2.at_)])∨(k=1000∧b = .arr 3 fk (pre.map fun x=>x.2.label)):=fun k b h=>by
   have h2:=(bS h).2
   simp only [List.mem_cons,List.not_mem_nil,or_false,Prod.mk.injEq] at h2
   exact h2
  have hr2:Rp { w0:=W,S:=fun b=>b<W.heap.size,X:=fun b=>b=g3∨b=Bx∨kb v=some b,nt:=80,K:=[3],ρ0:=ρb,hS:=fun _ h=>h,hX:=fun b h=>by rcases h with rfl|rfl|h;exact hv.lt;exact hbx.lt;exact (Array.getElem?_eq_some_iff.1 (hvb b h).2.choose_spec).1 } (cy [3,5,1000] [(3,.c (.ptr 3 0)),(5,.c (.ptr 5 0))] [(3,.box 75 [.own 1000,.sc (.slice (some ⟨g40,0,none⟩) 1 1)]),(5,.box 80 [.sc (.int .i64 x.2.label),.sc (.int .i64 x.2.at_)]),(1000,.arr 3 fk (pre.map fun x=>x.2.label))]) ρb a' W:=by
   refine ⟨hd,hs,Frx.refl _ _,fun t=>mm (ts:=[(3,.c (.ptr 3 0)),(5,.c (.ptr 5 0))]) ⟨⟨g3,p3,h3⟩,⟨Bx,p5,h5⟩,trivial⟩ t,fun k b hkb=>?_,fun k b g hkb hg=>?_,fun k k' b b' g hkb hkb' hg hg'=>?_,fun k hk=>⟨rfl,by rw [List.mem_singleton.1 hk];rfl⟩,Ae rfl⟩
   ·rcases hcas k b hkb with ⟨rfl,rfl⟩|⟨rfl,rfl⟩|⟨rfl,rfl⟩
    ·exact ⟨g3,[v,_],p3,hv,⟨pv.symm,rfl,trivial⟩,by intro u hu;simp at hu;rcases hu with rfl|rfl;exact hvo;rfl⟩
    ·exact ⟨Bx,[_,_],p5,hbx,⟨rfl,rfl,trivial⟩,by intro u hu;simp at hu;rcases hu with rfl|rfl <;> rfl⟩
    ·refine ⟨_,?_,oC _⟩
     rw [pv,hll,List.map_map]
     exact qH ho
   ·rcases hcas k b hkb with ⟨rfl,rfl⟩|⟨rfl,rfl⟩|⟨rfl,rfl⟩
    ·rw [p3] at hg;injection hg with hg;exact .inl (.inl hg.symm)
    ·rw [p5] at hg;injection hg with hg;exact .inl (.inr (.inl hg.symm))
    ·rw [pv] at hg;exact .inl (.inr (.inr hg))
   ·have hne:∀{a b:Nat},kb (ρb 3)=some a→kb (ρb 5)=some b→a≠b:=fun h h'=>by
     rw [p3] at h;rw [p5] at h';injection h with h;injection h' with h';rw [←h,←h'];exact hg3B
    have hnv3:∀{a b:Nat},kb (ρb 3)=some a→kb (ρb 1000)=some b→a≠b:=fun h h'=>by
     rw [p3] at h;rw [pv] at h';have h:g3=_:=Option.some.inj h;have:=(hvb _ h').1;omega
    have hnv5:∀{a b:Nat},kb (ρb 5)=some a→kb (ρb 1000)=some b→a≠b:=fun h h'=>by
     rw [p5] at h;rw [pv] at h';injection h with h;rw [←h];exact (tf _ h').symm
    rcases hcas k b hkb with ⟨rfl,_⟩|⟨rfl,_⟩|⟨rfl,_⟩ <;> rcases hcas k' b' hkb' with ⟨rfl,_⟩|⟨rfl,_⟩|⟨rfl,_⟩ <;> first
     | rfl
     | exact absurd rfl (hne hg hg')
     | exact absurd rfl (hne hg' hg)
     | exact absurd rfl (hnv3 hg hg')
     | exact absurd rfl (hnv3 hg' hg)
     | exact absurd rfl (hnv5 hg hg')
     | exact absurd rfl (hnv5 hg' hg)
  have hl4:(pre.map fun x=>x.2.label).length<4:=by rw [hll];omega
  obtain ⟨L,hL⟩:∃L,(pre.map fun x=>x.2.label)=L:=⟨_,rfl⟩
  rw [hL] at hr2 hl4
  clear hcas
  refine wpIn_block (wpIn_mono (oB (nt:=80) (K:=fun s'=>s'.h 3=some (.box 75 [.own 53,.sc (.slice (some ⟨g40,0,none⟩) 1 1)])∧s'.h 53=some (.arr 3 fk (L++[x.2.label]))) rfl rfl rfl ?_ hr2) ?_)
  ·repeat' (first
    | refine af ?_ ?_
    | (refine aa 6 rfl ?_;refine sx (tC (i:=0) rfl rfl rfl rfl (by decide) rfl) ?_)
    | (refine aa 8 rfl ?_;refine bc (ak rfl rfl (aI rfl rfl) (aO [x.2.label] rfl rfl rfl rfl) rfl aJ aJ) rfl rfl rfl ?_)
    | refine en ?_
    | exact ah|refine ae fun hb=>?_)
   exact ⟨rfl,rfl⟩
  rintro e a2 W' ⟨rfl,s',ρ',⟨c3,c53⟩,hr'⟩
  have hfr:=hr'.frm
  have hkp:∀b,b<W.heap.size→¬(b=g3∨b=Bx∨kb v=some b)→W'.heap[b]? = W.heap[b]?:=fun b hb hn=>hfr.keep b hb hn
  have hρ3:ρ' 3 = .pointer (some ⟨g3,0,none⟩):=((hr'.ent 3 (by simp)).1).trans p3
  obtain ⟨ga,va,ea,ba,ra,_⟩:=hr'.hp 3 _ c3
  rw [hρ3] at ea
  injection ea with ea
  injection ea with ea
  injection ea with ea
  subst ea
  obtain rfl:va=[ρ' 53,.slice (some ⟨g40,0,none⟩) 1 1]:=by
   match va,ra with
   | [_,_],⟨h,h',_⟩=>rw [show _=_ from h,show _=_ from h']
  obtain ⟨xs,o2,rp2⟩:=hr'.hp 53 _ c53
  rw [qG rp2] at o2
  have hkT:KpT (fun b=>b<w1.heap.size∧b≠g3) W W':=fun b hb=>hkp b (Nat.lt_of_lt_of_le hb.1 q4) fun h=>by
   have h1:=hb.1
   rcases h with h|h|h
   ·exact hb.2 h
   ·omega
   ·have:=(hvb b h).1;omega
  refine ⟨⟨hfr.size,fun k o _ hko hno=>(hkp k (Array.getElem?_eq_some_iff.1 hko).1 fun h=>?_).trans hko⟩,hkT,⟨ρ' 53,ba,?_⟩,fun b hb=>(hkT b hb).trans (hk b hb),hfr.os.trans q1,hfr.tape.trans q2,hfr.output.trans q3,Nat.le_trans q4 hfr.size⟩
  ·rcases h with rfl|rfl|h
   ·rw [show W.heap[k]? = _ from hv] at hko;cases hko;cases hno
   ·rw [show W.heap[k]? = _ from hbx] at hko;cases hko;cases hno
   ·obtain ⟨_,cur,hcur⟩:=hvb k h
    rw [hcur] at hko;cases hko;cases hno
  ·have e1:(L++[x.2.label]).length=(pre++[x]).length:=by rw [←hL];simp
   have e2:(L++[x.2.label]).map (Value.int .i64)=(pre++[x]).map fun x=>Value.int .i64 x.2.label:=by rw [←hL];simp
   rw [e1,e2] at o2
   refine wk o2 fun g hg=>?_
   rcases hr'.inb 53 _ g c53 hg with h|h
   ·rcases h with h|h|h
    ·have:=hr'.dis 3 53 _ _ g c3 c53 (by rw [hρ3,h];rfl) hg
     cases this
    ·omega
    ·exact (hvb g h).1
   ·exact Nat.le_trans q4 h
 case done =>
  rintro D ys W hD hys ⟨⟨v,hv,ho⟩,hk,q1,q2,q3,q4⟩ hDef
  show Code.wp _ _ _ _ _
  have hDl:D<W.heap.size:=(Array.getElem?_eq_some_iff.1 hDef).1
  have hvb:∀b,kb v=some b→w1.heap.size≤b∧∃cur,W.heap[b]? = some (.cells cur 3 (0,0)):=fun b hb=>ng ho hb
  have hvo:v.oneCell'=true:=by
   rcases ho.2 with ⟨rfl,_⟩|⟨g,cap,cur,rfl,_⟩ <;> rfl
  have m1:w.heap.size≤g1:=by
   rcases hr.inb 1 _ g1 i1 (by rw [e1];rfl) with h|h
   ·exact absurd h (cX _)
   ·rw [cW] at h;exact h
  have m3:w.heap.size≤g3:=by
   rcases hr.inb 3 _ g3 i3 (by rw [e3];rfl) with h|h
   ·exact absurd h (cX _)
   ·rw [cW] at h;exact h
  have m40:w.heap.size≤g40:=by
   rcases hr.inb 40 _ g40 i40 (by rw [e40];rfl) with h|h
   ·exact absurd h (cX _)
   ·rw [cW] at h;exact h
  have mw:w.heap.size≤w1.heap.size:=by have:=hr.frm.size;rw [cW] at this;exact this
  obtain ⟨L,hL⟩:∃L,ys.map (fun x=>x.2.label)=L:=⟨_,rfl⟩
  have hLs:L=p.led.saves.reverse.map (·.label):=by rw [←hL,←hys,List.map_map];rfl
  have ho2:W.ownsRow w1.heap.size 3 1 v L.length (L.map (Value.int .i64)):=by
   rw [←hL,List.length_map,List.map_map]
   exact ho
  obtain ⟨c2,hc2⟩:∃c2:Ctx,({ w0:=W,S:=fun b=>(b<W.heap.size∧b≠D)∧(S b∨w.heap.size≤b),X:=fun b=>b=g1∨b=g3,nt:=80,K:=[],ρ0:=ρ1,hS:=fun _ h=>h.1.1,hX:=fun b h=>by rcases h with rfl|rfl;exact ⟨⟨by omega,by omega⟩,.inr m1⟩;exact ⟨⟨by omega,by omega⟩,.inr m3⟩,dfr:=[{ target:=.collected D,args:=#[] }] }:Ctx)=c2:=⟨_,rfl⟩
  have d1:c2.w0=W:=by rw [←hc2]
  have d2:c2.S=fun b=>(b<W.heap.size∧b≠D)∧(S b∨w.heap.size≤b):=by rw [←hc2]
  have d3:c2.X=fun b=>b=g1∨b=g3:=by rw [←hc2]
  have d4:c2.nt=80:=by rw [←hc2]
  have d5:c2.K=[]:=by rw [←hc2]
  have d6:c2.dfr=[{ target:=.collected D,args:=#[] }]:=by rw [←hc2]
  clear hc2
  obtain ⟨sB,hsB⟩:∃sB,cy [1,3] [(1,.c (.ptr 1 0)),(3,.c (.ptr 3 0))] [(1,.box 38 (p.d d)),(3,.box 75 [.sl fk L,.sl fk [-1]])]=sB:=⟨_,rfl⟩
  have hcas:∀(k:Nat) (b:Box),sB.h k=some b→(k=1∧b = .box 38 (p.d d))∨(k=3∧b = .box 75 [.sl fk L,.sl fk [-1]]):=fun k b h=>by
   rw [←hsB] at h
   have h2:=(bS h).2
   simp only [List.mem_cons,List.not_mem_nil,or_false,Prod.mk.injEq] at h2
   exact h2
  have hfz:∀b,b<W.heap.size→b≠D→(S b∨w.heap.size≤b)→b≠g1→b≠g3→Fz c2 sB.h ρ1 W b:=fun b h1 h2 h3 h4 h5=>⟨.inl (by rw [d2];exact ⟨⟨h1,h2⟩,h3⟩),h1,fun k bx hkb hg=>by
   rcases hcas k bx hkb with ⟨rfl,_⟩|⟨rfl,_⟩
   ·rw [e1] at hg;exact h4 (Option.some.inj hg).symm
   ·rw [e3] at hg;exact h5 (Option.some.inj hg).symm⟩
  have hold:∀b,Fz c0 sA.h ρ1 w1 b→Fz c2 sB.h ρ1 W b∧W.heap[b]? = w1.heap[b]?:=fun b hb=>by
   obtain ⟨k1,k2,k3⟩:=hz3 b hb
   refine ⟨hfz b (by omega) (by omega) ?_ k2 k1,hk b ⟨k3,k1⟩⟩
   have:=hb.1
   rw [cS,cW] at this
   exact this
  have hr2:Rp c2 sB ρ1 { a1 with defers:={ target:=.collected D,args:=#[] } :: a1.defers } W:=by
   refine ⟨?_,?_,by rw [d1];exact Frx.refl _ _,fun t=>?_,fun k b hkb=>?_,fun k b g hkb hg=>?_,fun k k' b b' g hkb hkb' hg hg'=>?_,fun k hk=>(by rw [d5] at hk;cases hk),by rw [←hsB];exact Ae rfl⟩
   ·rw [d6]
    show _ :: a1.defers=_
    rw [hr.dfr,cD]
   ·rw [d4];exact hsz
   ·rw [←hsB]
    exact mm (ts:=[(1,.c (.ptr 1 0)),(3,.c (.ptr 3 0))]) ⟨⟨g1,e1,t1⟩,⟨g3,e3,t3⟩,trivial⟩ t
   ·rcases hcas k b hkb with ⟨rfl,rfl⟩|⟨rfl,rfl⟩
    ·exact ⟨g1,v1,e1,(hk g1 ⟨l1,n13⟩).trans b1,r1.imp fun a b _ h=>Go.Proofs.YtdaajdflefnjfaaGreat.D.rep.mono h hold fun _ _=>rfl,o1⟩
    ·refine ⟨g3,[v,_],e3,hv,⟨?_,?_,trivial⟩,by intro u hu;simp at hu;rcases hu with rfl|rfl;exact hvo;rfl⟩
     ·obtain ⟨A,cap,hA,hcp,hrow⟩:=dZ (ρ:=ρ1) (F:=Fz c2 sB.h ρ1 W) (⟨_,qH ho2,oC L⟩:(Box.arr 3 fk L).rep W (Fz c2 sB.h ρ1 W) ρ1 v)
      refine ⟨A,cap,hA,hcp,?_⟩
      rcases Nat.eq_zero_or_pos L.length with hz|hz
      ·obtain rfl:L=[]:=List.eq_nil_of_length_eq_zero hz
       exact RowsAt.nil _ _ _ _
      ·obtain ⟨gq,xs,rfl,hlt,hre,hce,_⟩:=hrow hz
       obtain ⟨k1,cur,k2⟩:=hvb gq (by rw [hA];rfl)
       exact ⟨xs,hre,fun _=>⟨gq,0,rfl,hfz gq hlt (fun h=>by rw [h,hDef] at k2;cases k2) (.inr (by omega)) (by omega) (by omega),fun j u hu=>by rw [Nat.zero_add];exact hce j u hu⟩⟩
     ·refine ⟨some ⟨g40,0,none⟩,1,rfl,⟨Nat.le_refl _,by decide⟩,[.int .i64 (-1)],oC [-1],fun _=>⟨g40,0,rfl,hfz g40 (by omega) (by omega) (.inr m40) n401 n403,fun j u hu=>?_⟩⟩
      have h9:Blk W g40 3 #[.int .i64 (-1)]:=(hk g40 ⟨l40,n403⟩).trans b40
      rw [Nat.zero_add,h9.cell j]
      simpa using hu
   ·rw [d3]
    rcases hcas k b hkb with ⟨rfl,rfl⟩|⟨rfl,rfl⟩
    ·rw [e1] at hg;exact .inl (.inl (Option.some.inj hg).symm)
    ·rw [e3] at hg;exact .inl (.inr (Option.some.inj hg).symm)
   ·rcases hcas k b hkb with ⟨rfl,rfl⟩|⟨rfl,rfl⟩ <;> rcases hcas k' b' hkb' with ⟨rfl,rfl⟩|⟨rfl,rfl⟩
    ·rfl
    ·rw [e1] at hg;rw [e3] at hg';exact absurd ((Option.some.inj hg).trans (Option.some.inj hg').symm) n13
    ·rw [e3] at hg;rw [e1] at hg';exact absurd ((Option.some.inj hg').trans (Option.some.inj hg).symm) n13
    ·rfl
  have hend:∀e a' W',(∃s' ρ',qa prog f9 [] (TV.c (.sl uh R)) [] e s'∧Rp c2 s' ρ' a' W')→Exit.noGoto QM e a' W':=by
   rintro e a' W' ⟨s',ρ',hf,hr'⟩
   obtain ⟨vv,hvv,hrep⟩:=Bt hf hr' rfl ρ
   have hfr:=hr'.frm
   rw [d1,d3] at hfr
   have hD':W'.heap[D]? = some (.deferred (some [])):=(hfr.keep D hDl (by rintro (h|h) <;> omega)).trans hDef
   have hdf:=hr'.dfr
   rw [d6] at hdf
   have hq:LeavesInM Fence.wide 8 prog f9 a'.tmps (fun e w'=>∃v,e=Ending.returned v∧Below w.heap.size w w'∧(TV.c (.sl uh R)).rep w' (Gr S w.heap.size w') ρ v) a'.defers .returning W':=by
    rw [hdf]
    have hres:∀w9,(results f9 a'.tmps).run prog w9 = .ok (a'.tmps.getD 2 undef) w9:=fun w9=>results_tmp rfl _ _ _
    rw [hres W'] at hvv
    injection hvv with hvv
    refine ⟨by simp,.inl ⟨D,_,rfl,run_takeDeferred hD',_,hres _,_,rfl,⟨?_,?_,?_,?_,fun b hb=>?_⟩,?_⟩⟩
    ·exact hfr.os.trans (q1.trans (by have:=hr.frm.os;rw [cW] at this;exact this))
    ·exact hfr.tape.trans (q2.trans (by have:=hr.frm.tape;rw [cW] at this;exact this))
    ·exact hfr.output.trans (q3.trans (by have:=hr.frm.output;rw [cW] at this;exact this))
    ·rw [World.putObj_size];have:=hfr.size;omega
    ·rw [World.putObj_heap_other (by omega),hfr.keep b (by omega) (by rintro (h|h) <;> omega),hk b ⟨by omega,by omega⟩]
     have:=hr.frm.keep b (by rw [cW];exact hb) (cX b)
     rw [cW] at this
     exact this
    ·rw [hvv]
     refine hrep.mono (fun b hb=>⟨⟨by rw [World.putObj_size];exact hb.2,?_⟩,World.putObj_heap_other ?_⟩) fun _ _=>rfl
     ·rcases hb.1 with h|h
      ·rw [d2] at h;exact h.2
      ·rw [d1] at h;exact .inr (by omega)
     ·rcases hb.1 with h|h
      ·rw [d2] at h;exact h.1.2
      ·rw [d1] at h;omega
   rcases hf.1 with rfl|rfl
   ·rw [←hQM];exact hq
   ·rw [←hQM];exact hq
  refine wp_mono ((?_:AW prog 80 [] _ (qa prog f9 [] (TV.c (.sl uh R)) []) sB) c2 ρ1 _ W d4 d5 hr2) hend
  obtain ⟨O,hO⟩:∃O,qQ p=O:=⟨_,rfl⟩
  rw [hO] at hR
  have hrows:=FI p L hg hLs hO
  obtain ⟨off,hoff⟩:∃off:Nat→Nat,(fun k=>if k=0 then 0 else if k=1 then L.length else L.length+1)=off:=⟨_,rfl⟩
  rw [hoff] at hrows
  have f0:off 0=0:=by rw [←hoff];rfl
  have f2:off 2=L.length+1:=by rw [←hoff];rfl
  have hOl:O.length=L.length+1:=by rw [←hO,hLs];simp [qQ]
  have hL4:L.length≤4:=by rw [hLs];simp;omega
  rw [←hsB]
  clear hend hr2 hold hfz hcas hsB ho2 hLs hoff hDef hvb ho hv hk hz3 b1 b3 b40 bB r1 o1 rB r40 r3 RB hF hQM hr
  repeat' (first
   | refine af ?_ ?_
   | refine en ?_
   | exact ah|refine ae fun hb=>?_
   | ((with_reducible refine DI ?_)))
  refine dS 6 1000 41 uh rfl rfl rfl ?_
  refine ao (fun kd:Nat=>kd≤2∧(O.take (off kd)).all nk=true) (fun kd=>cy [1,1000] [(1,.c (.ptr 1 0)),(6,.c (.own 1000)),(55,.v (.ag [.sl fk L,.sl fk [-1]])),(56,.i kd)] [(1,.box 38 (p.d d)),(1000,.arr 41 uh (O.take (off kd)))]) (fun kd=>2-kd) 0 ⟨Nat.zero_le _,by rw [f0];rfl⟩ (by rw [f0];exact ap (qf [])) ?_
  rintro kd ⟨hkd,hall⟩
  by_cases hlt:kd<2
  case neg =>
   obtain rfl:kd=2:=by omega
   rw [f2,List.take_of_length_le (by omega)] at hall ⊢
   rw [hall] at hR
   obtain rfl:R=O:=hR.symm
   repeat' (first
    | refine af ?_ ?_
    | refine en ?_
    | exact ah|refine ae fun hb=>?_
    | (refine aP (qf []) ?_;exact ab))
  obtain ⟨row,hrow,hoff1,hrl,hel⟩:=hrows kd hlt
  repeat' (first
   | refine af ?_ ?_
   | (refine aa 0 rfl ?_;refine sx (tD rfl rfl rfl rfl (by omega) hrow) ?_)
   | refine en ?_
   | exact ah|refine ae fun hb=>?_)
  refine ao (fun j:Nat=>j≤row.length∧(O.take (off kd+j)).all nk=true) (fun j=>cy [1,1000] [(1,.c (.ptr 1 0)),(6,.c (.own 1000)),(7,.i kd),(55,.v (.ag [.sl fk L,.sl fk [-1]])),(56,.i kd),(60,.c (.sl fk row)),(61,.i row.length),(62,.i j)] [(1,.box 38 (p.d d)),(1000,.arr 41 uh (O.take (off kd+j)))]) (fun j=>row.length-j) 0 ⟨Nat.zero_le _,hall⟩ (by exact ap (qf [])) ?_
  clear hall
  rintro j ⟨hj,hall⟩
  by_cases hlj:j<row.length
  case neg =>
   obtain rfl:j=row.length:=by omega
   rw [hoff1] at hall ⊢
   repeat' (first
    | refine af ?_ ?_
    | refine en ?_
    | exact ah|refine ae fun hb=>?_)
   refine ⟨kd+1,⟨by omega,hall⟩,by omega,?_⟩
   exact ap (qf [])
  obtain ⟨gl,hgk,hgl,hOj⟩:=hel j hlj
  obtain ⟨lb,hlb⟩:∃lb,row[j]=lb:=⟨_,rfl⟩
  have hrj:row[j]? = some lb:=by rw [List.getElem?_eq_getElem hlj,hlb]
  rw [hlb] at hgk hOj
  obtain ⟨X,hX⟩:∃X,Hc p gl lb=X:=⟨_,rfl⟩
  have kO:=Ik d p gl kd lb hgk hgl h72 ⟨by omega,hc2⟩ hX
  rw [hX] at hOj
  obtain ⟨bx,hbx⟩:∃bx,nk X=bx:=⟨_,rfl⟩
  have kX:=mo X hbx
  have hOlt:off kd+j<O.length:=(List.getElem?_eq_some_iff.1 hOj).1
  have hXe:O[off kd+j]=X:=(List.getElem?_eq_some_iff.1 hOj).2
  have hnx:O.take (off kd+j)++[X]=O.take (off kd+(j+1)):=by rw [←Nat.add_assoc,List.take_succ_eq_append_getElem hOlt,hXe]
  have htl:(O.take (off kd+j)).length≤5:=by rw [List.length_take];omega
  cases bx with
  | false =>
   obtain rfl:R=[]:=by
    rw [←hR]
    cases hh:O.all nk with
    | false=>rfl
    | true =>
     have:=List.all_eq_true.1 hh X (hXe▸List.getElem_mem hOlt)
     rw [hbx] at this
     cases this
   clear hnx hXe hOlt hOj hgk hgl hX hR hel hrows hoff1 hall
   generalize O.take (off kd+j)=Tk at *
   repeat' (first
    | refine af ?_ ?_
    | (refine aa 9 rfl ?_;first
     | (refine cC [] (kO) ?_)
     | (refine cB [] (kX) ?_))
    | refine en ?_
    | exact ah|refine ae fun hb=>?_
    | (refine aP (qf []) ?_;exact ab))
  | true =>
   have hall2:(O.take (off kd+(j+1))).all nk=true:=by rw [←hnx,List.all_append,hall];simp [hbx]
   clear hXe hOlt hOj hgk hgl hX hR hel hrows hoff1 hall
   generalize O.take (off kd+j)=Tk at *
   repeat' (first
    | refine af ?_ ?_
    | (refine aa 8 rfl ?_;refine bc (ak rfl rfl (aI rfl rfl) (aO [X] rfl rfl rfl rfl) rfl aJ aJ) rfl rfl rfl ?_)
    | (refine aa 9 rfl ?_;first
     | (refine cC [] (kO) ?_)
     | (refine cB [] (kX) ?_))
    | refine en ?_
    | exact ah|refine ae fun hb=>?_)
   refine ⟨j+1,⟨by omega,hall2⟩,by omega,?_⟩
   rw [←hnx]
   exact ap (qf [(1000,76)])
def uH (l:List UInt8):Value:=.tuple #[.int .u64 ((aK l).1:Int),.int .i64 ((aK l).2.1:Int),.int .i64 (aK l).2.2]
theorem oH {l:List UInt8} {v n:Nat} {e:Int} (h:aK l=(v,n,e)):uH l = .tuple #[.int .u64 (v:Int),.int .i64 (n:Int),.int .i64 e]:=by unfold uH;rw [h]
theorem An {x:Nat} (h:x<256):bits .and .u8 (x:Int) 127=((x % 128:Nat):Int):=by
 have:=u8_and_nat x 127 h (by decide)
 rw [nat_mask7] at this
 exact this
theorem Ao {x:Nat} (h:x<256):bits .and .u8 (x:Int) 128=((x / 128*128:Nat):Int):=by
 have:=u8_and_nat x 128 h (by decide)
 rw [show (128:Nat)=2 ^ 7 from rfl,nat_bit] at this
 rw [show ((2 ^ 7:Nat):Int)=128 from rfl] at this
 rw [this]
 congr 1
 have:x / 2 ^ 7 % 2=x / 128:=by omega
 rw [this]
theorem MI (k:Nat):2 ^ (7*(k+1))=2 ^ (7*k)*128:=by rw [show 7*(k+1)=7*k+7 by omega,Nat.pow_add]
theorem ww {x k:Nat} (hx:x<128) (hk:k≤9) (h9:k=9→x≤1):x*2 ^ (7*k)<2 ^ 64:=by
 rcases Nat.lt_or_ge k 9 with h|h
 ·have h1:x*2 ^ (7*k)<128*2 ^ (7*k):=Nat.mul_lt_mul_of_pos_right hx (Nat.two_pow_pos _)
  have h2:128*2 ^ (7*k)=2 ^ (7+7*k):=by rw [Nat.pow_add]
  have h3:2 ^ (7+7*k)≤2 ^ 64:=Nat.pow_le_pow_right (by decide) (by omega)
  omega
 ·have:k=9:=by omega
  subst this
  have h1:=Nat.mul_le_mul_right (2 ^ (7*9)) (h9 rfl)
  have h2:1*2 ^ (7*9)<2 ^ 64:=by decide
  exact Nat.lt_of_le_of_lt h1 h2
theorem FJ {x k:Nat} (hx:x<128) (hk:k≤9) (h9:k=9→x≤1):IntKind.u64.wrap ((x:Int)*2 ^ min (7*(k:Int)).toNat 64)=((x*2 ^ (7*k):Nat):Int):=by
 have h:=ww hx hk h9
 rw [show min (7*(k:Int)).toNat 64=7*k by omega]
 have e:(x:Int)*2 ^ (7*k)=((x*2 ^ (7*k):Nat):Int):=by simp
 rw [e]
 exact IntWalk.u64_in _ (by
  have:(2 ^ 64:Nat)=18446744073709551616:=by decide
  omega)
theorem Kk {acc x k:Nat} (hacc:acc<2 ^ (7*k)) (hx:x<128) (hk:k≤9) (h9:k=9→x≤1):bits .or .u64 (acc:Int) ((x*2 ^ (7*k):Nat):Int)=((acc+x*2 ^ (7*k):Nat):Int):=by
 have h:=ww hx hk h9
 have e64:(2 ^ 64:Nat)=18446744073709551616:=by decide
 have h2:2 ^ (7*k)≤2 ^ 63:=Nat.pow_le_pow_right (by decide) (by omega)
 have e63:(2 ^ 63:Nat)=9223372036854775808:=by decide
 rw [u64_or_nat acc _ (by omega) (by omega)]
 congr 1
 rw [Nat.or_comm,nat_join (7*k) _ acc (Nat.mul_mod_left _ _) hacc,Nat.add_comm]
theorem Ap {k acc:Nat} {l:List UInt8} (hk:k<10) (hlt:k<l.length) (h:(k=9∧1<l[k].toNat)∨(l[k].toNat=0∧0<k)):dB (10-k) k acc (l.drop k)=(0,0,6):=by
 rw [List.drop_eq_getElem_cons hlt,show 10-k=(9-k)+1 by omega]
 unfold dB
 rw [if_pos h]
theorem Aq {k acc:Nat} {l:List UInt8} (hk:k<10) (hlt:k<l.length) (h:¬((k=9∧1<l[k].toNat)∨(l[k].toNat=0∧0<k))) (hc:l[k].toNat<128):dB (10-k) k acc (l.drop k)=(acc+l[k].toNat % 128*2 ^ (7*k),k+1,0):=by
 rw [List.drop_eq_getElem_cons hlt,show 10-k=(9-k)+1 by omega]
 unfold dB
 rw [if_neg h,if_pos hc]
theorem Ar {k acc:Nat} {l:List UInt8} (hk:k<10) (hlt:k<l.length) (h:¬((k=9∧1<l[k].toNat)∨(l[k].toNat=0∧0<k))) (hc:¬l[k].toNat<128):dB (10-k) k acc (l.drop k)=dB (10-(k+1)) (k+1) (acc+l[k].toNat % 128*2 ^ (7*k)) (l.drop (k+1)):=by
 rw [List.drop_eq_getElem_cons hlt,show 10-k=(9-k)+1 by omega]
 conv=>lhs;unfold dB
 rw [if_neg h,if_neg hc,show 9-k=10-(k+1) by omega]
theorem yI {k acc:Nat} {l:List UInt8} (hk:k<10) (hlt:l.length≤k):dB (10-k) k acc (l.drop k)=(0,0,5):=by
 rw [List.drop_eq_nil_of_le hlt,show 10-k=(9-k)+1 by omega]
 rfl
theorem s8 (A:Option Addr) (B cap:Nat) (l:List UInt8) (w:World) (hm:l.length≤281474976710656) (hr:RowsAt cd w (Lo B) A l):Calls prog 91 #[.slice A l.length cap] w (mq w (uH l)):=by
 have HR:=Lib.hid hr
 have HV:=Lib.hid (fun v n e h=>oH (l:=l) (v:=v) (n:=n) (e:=e) h)
 obtain ⟨res,hres⟩:∃res,uH l=res:=⟨_,rfl⟩
 rw [hres] at HV ⊢
 clear hr hres
 go_enter func91,ntmps91
 go_wp2
 go_loop [5,8] (fun v i=>∃(k acc:Nat),k≤10∧k≤l.length∧i = .int .i64 (k:Int)∧v = .int .u64 (acc:Int)∧acc<2 ^ (7*k)∧Hid (aK l=dB (10-k) k acc (l.drop k))) (fun _ i=>10-(intOf i).toNat)
 case atStart=>exact ⟨0,0,by omega,Nat.zero_le _,rfl,rfl,by decide,Lib.hid rfl⟩
 case round =>
  obtain ⟨k,acc,hk,hkl,rfl,rfl,hacc,HU⟩:=hrel
  have HACC:=Lib.hid hacc
  clear hacc
  by_cases h10:k<10
  ·by_cases hlt:k<l.length
   ·obtain ⟨b,off,rfl,_,hc⟩:=BI HR.out hlt
    have hcb:=l[k].toNat_lt
    have F1:=Lib.hid (fun h=>Ap (acc:=acc) h10 hlt h)
    have F2:=Lib.hid (fun h h'=>Aq (acc:=acc) h10 hlt h h')
    have F3:=Lib.hid (fun h h'=>Ar (acc:=acc) h10 hlt h h')
    generalize l[k].toNat=x at *
    have hlti:(k:Int)<(l.length:Int):=by omega
    have m1:=An hcb
    have m2:=Ao hcb
    by_cases hA:k=9∧1<x
    ·have HVV:=Lib.hid (HV.out 0 0 6 (HU.out.trans (F1.out (Or.inl hA))))
     obtain ⟨h9,h1⟩:=hA
     have hk9:((k:Int) == 9)=true:=beq_iff_eq.2 (by omega)
     have h1i:(1:Int)<(x:Int):=by omega
     clear h9 h1 m1 m2
     go_wp2
     (refine bodyPost_ret (v:=res) (by simp [results,results91,go_sem,HVV.out]) rfl ⟨rfl,rfl⟩)
    ·have hx1:k=9→x % 128≤1:=fun h=>by omega
     have eE:(((x % 128*2 ^ (7*k):Nat)):Int)=(x:Int) % 128*2 ^ (7*k):=by push_cast;rfl
     have m3:=FJ (x:=x % 128) (k:=k) (by omega) (by omega) hx1
     have m4:=Kk (x:=x % 128) (k:=k) HACC.out (by omega) (by omega) hx1
     rw [show min (7*(k:Int)).toNat 64=7*k by omega,eE,show ((x % 128:Nat):Int)=(x:Int) % 128 by omega] at m3
     rw [Int.natCast_add,eE] at m4
     have EE:Hid (((acc+x % 128*2 ^ (7*k):Nat):Int)=(acc:Int)+(x:Int) % 128*2 ^ (7*k)):=Lib.hid (by rw [Int.natCast_add,eE])
     clear eE
     have HA:=Lib.hid hA
     by_cases hB:128≤x
     ·have HU2:=Lib.hid (HU.out.trans (F3.out (fun h=>h.elim hA (fun h=>by omega)) (by omega)))
      have HL:=Lib.hid (ww (x:=x % 128) (k:=k) (by omega) (by omega) hx1)
      have m2':bits .and .u8 (x:Int) 128=128:=by rw [m2,show x / 128*128=128 by omega];rfl
      clear m2
      have H9:k=9∧x≤1∨k≠9:=by omega
      have hk9:((k:Int) == 9)=false:=beq_eq_false_iff_ne.2 (by omega)
      clear hA H9 hx1
      go_wp2
      go_round
      case rel=>exact ⟨k+1,acc+x % 128*2 ^ (7*k),by omega,by omega,by go_num,by rw [EE.out],by
       have:=HACC.out
       rw [MI]
       have h1:x % 128≤127:=by omega
       have h2:=Nat.mul_le_mul_right (2 ^ (7*k)) h1
       omega,HU2⟩
      case measure=>simp [intOf];omega
     ·have m2':bits .and .u8 (x:Int) 128=0:=by rw [m2,show x / 128*128=0 by omega];rfl
      clear m2
      by_cases hZ:x=0∧0<k
      ·have HVV:=Lib.hid (HV.out 0 0 6 (HU.out.trans (F1.out (Or.inr hZ))))
       obtain ⟨hz1,hz2⟩:=hZ
       have hz3:((x:Int) == 0)=true:=beq_iff_eq.2 (by omega)
       have hz4:(0:Int)<(k:Int):=by omega
       have hx2:¬(1:Int)<(x:Int):=by omega
       clear hz1 hz2 hA hx1
       go_wp2
       all_goals (refine bodyPost_ret (v:=res) (by simp [results,results91,go_sem,HVV.out]) rfl ⟨rfl,rfl⟩)
      ·have HVV:=Lib.hid (HV.out _ _ _ (HU.out.trans (F2.out (fun h=>h.elim hA hZ) (by omega))))
       rw [EE.out] at HVV
       have hk01:k=0∨x≠0:=by omega
       have hk90:k=9∧x≤1∨k≠9:=by omega
       clear hx1 hA hZ
       rcases hk90 with ⟨h9,hx1⟩|h9
       ·have hk9:((k:Int) == 9)=true:=beq_iff_eq.2 (by omega)
        have hz3:((x:Int) == 0)=false:=beq_eq_false_iff_ne.2 (by omega)
        have hx2:(x:Int)≤1:=by omega
        clear h9 hk01 hx1
        go_wp2
        all_goals (refine bodyPost_ret (v:=res) (by simp [results,results91,go_sem,HVV.out]) rfl ⟨rfl,rfl⟩)
       ·have hk9:((k:Int) == 9)=false:=beq_eq_false_iff_ne.2 (by omega)
        clear h9
        rcases hk01 with h0|h0
        ·have hk0:¬(0:Int)<(k:Int):=by omega
         clear h0
         by_cases hx0:x=0
         ·subst hx0
          have m5:bits .or .u64 (acc:Int) 0=(acc:Int):=by simpa using m4
          have m6:bits .and .u8 (0:Int) 127=0:=by simpa using m1
          have m7:bits .and .u8 (0:Int) 128=0:=by simpa using m2'
          have m8:IntKind.u64.wrap 0=0:=by rw [IntWalk.u64_in _ (by omega)]
          clear m1 m2' m3 m4
          go_wp2
          all_goals (refine bodyPost_ret (v:=res) (by simp [results,results91,go_sem,HVV.out]) rfl ⟨rfl,rfl⟩)
         have hz3:((x:Int) == 0)=false:=beq_eq_false_iff_ne.2 (by omega)
         clear hx0
         go_wp2
         all_goals (refine bodyPost_ret (v:=res) (by simp [results,results91,go_sem,HVV.out]) rfl ⟨rfl,rfl⟩)
        ·have hz3:((x:Int) == 0)=false:=beq_eq_false_iff_ne.2 (by omega)
         clear h0
         go_wp2
         all_goals (refine bodyPost_ret (v:=res) (by simp [results,results91,go_sem,HVV.out]) rfl ⟨rfl,rfl⟩)
   ·have HVV:=Lib.hid (HV.out 0 0 5 (HU.out.trans (yI h10 (by omega))))
    go_wp2
    (refine bodyPost_ret (v:=res) (by simp [results,results91,go_sem,HVV.out]) rfl ⟨rfl,rfl⟩)
  ·obtain rfl:k=10:=by omega
   have HVV:=Lib.hid (HV.out 0 0 6 (HU.out.trans rfl))
   go_wp2
   (refine bodyPost_ret (v:=res) (by simp [results,results91,go_sem,HVV.out]) rfl ⟨rfl,rfl⟩)
theorem yJ {m:Nat} (h:m<18446744073709551616):bits .and .u64 (m:Int) 127=(m:Int) % 128:=by
 have:=u64_and_nat m 127 h (by decide)
 rw [nat_mask7] at this
 exact this.trans (by omega)
theorem C6 {x:Nat} (h:x<128):bits .or .u8 (x:Int) 128=(x:Int)+128:=by
 have:=u8_or_nat x 128 (by omega) (by decide)
 rw [Nat.or_comm,nat_join 7 128 x (by decide) (by omega)] at this
 exact this.trans (by omega)
def LR (A:Option Addr) (w:World) (l pre:List UInt8) (v:Value) (wq:World):Prop :=
 (pre=[]∧v = .slice A l.length l.length∧wq=w)∨OwnRows cd 5 wq w.heap.size v (l++pre)
theorem lG (A:Option Addr) (cap:Nat) (l:List UInt8) (v:Nat) (w:World) (hv:v<18446744073709551616) (hA:A=none→l.length=0) (hc:l.length≤cap) (hcm:cap≤maxLen) (hm:l.length≤140737488355300) (hr:RowsAt cd w (Lo w.heap.size) A l) :
  Calls prog 46 #[.slice A l.length cap,.int .u64 (v:Int)] w (fP cd 5 w (l++aX v)):=by
 unfold maxLen at hcm
 have HR:=Lib.hid hr
 have HA:Hid (A=none→l.length=0∧l.length=0):=Lib.hid (fun h=>⟨hA h,hA h⟩)
 have hlen:(aX v).length≤10:=i5 9 v (by
  have e70:(2:Nat) ^ (7*(9+1))=1180591620717411303424:=by decide
  omega)
 have HLEN:=Lib.hid hlen
 have HV64:=Lib.hid hv
 clear hr hA hlen hv
 go_enter func46,ntmps46
 go_wp2_with fail
 go_loopg [1,5] (aX v).length (fun g v1 v5 wq=>∃(m:Nat) (pre:List UInt8),v1 = .int .u64 (m:Int)∧Hid (m<18446744073709551616)∧Hid (aX v=pre++aX m)∧(aX m).length≤g∧Hid (LR A w l pre v5 wq)∧Below w.heap.size w wq)
 case atStart=>exact ⟨v,[],rfl,HV64,Lib.hid rfl,Nat.le_refl _,Lib.hid (Or.inl ⟨rfl,rfl,rfl⟩),Below.refl _ _⟩
 case round =>
  obtain ⟨m,pre,rfl,HM,HE,hg,HP,hbw⟩:=hrel
  have HBW:=Lib.hid hbw
  have hpre:Hid (pre.length+(aX m).length≤10):=Lib.hid (by have:=HLEN.out;rw [HE.out,List.length_append] at this;exact this)
  clear hbw
  by_cases hlt:m<128
  ·have es:=jq hlt
   have hw8:IntKind.u8.wrap (m:Int)=(m:Int):=IntWalk.u8_in _ (by omega)
   have htn:((UInt8.ofNat m).toNat:Int)=(m:Int):=by rw [iK (by omega)]
   have ES:=Lib.hid es
   have HT:=Lib.hid htn
   clear es htn
   rcases HP.out with ⟨rfl,rfl,rfl⟩|hown
   ·go_wp2_with (at_builtin;refine tI iS rfl (.tmp 23) (.tmp 26) rfl wr A l.length l.length l rfl (UInt8.ofNat m) [.int .u8 (m:Int)] _ rfl rfl (Nat.le_refl _) HA.out HR.out wr.heap.size rfl rfl (by show [_]=[_];rw [HT.out]) (by unfold maxLen;omega) (by omega) ?_;intro v7 w7 hown7 hb7;have HOWN7:=Lib.hid hown7;have HB7:=Lib.hid hb7;clear hown7 hb7)
    go_ret
    exact ⟨_,rfl,by rw [HE.out,ES.out];exact HOWN7.out,HB7.out⟩
   ·have HOWN:=Lib.hid hown
    have hl10:Hid ((l++pre).length<maxLen∧((l++pre).length+1)*1≤140737488355328):=Lib.hid (by have:=hpre.out;simp [maxLen];omega)
    clear hown
    go_wp2_with (at_builtin;refine dd iS rfl (.tmp 23) (.tmp 26) rfl wr w.heap.size u5 (l++pre) (UInt8.ofNat m) [.int .u8 (m:Int)] _ rfl rfl HOWN.out wr.heap.size rfl rfl (by show [_]=[_];rw [HT.out]) hl10.out.1 hl10.out.2 ?_;intro v7 w7 hown7 hb7 hsp7;have HOWN7:=Lib.hid hown7;have HB7:=Lib.hid (HBW.out.trans hb7);clear hown7 hb7 hsp7)
    go_ret
    exact ⟨_,rfl,by rw [HE.out,ES.out,←List.append_assoc];exact HOWN7.out,HB7.out⟩
  ·have es:=re hlt
   have a1:=yJ HM.out
   have a2:IntKind.u8.wrap ((m:Int) % 128)=(m:Int) % 128:=IntWalk.u8_in _ (by omega)
   have a3:bits .or .u8 ((m:Int) % 128) 128=(m:Int) % 128+128:=by
    have:=C6 (x:=m % 128) (by omega)
    rwa [show ((m % 128:Nat):Int)=(m:Int) % 128 by omega] at this
   have htn:((UInt8.ofNat (m % 128+128)).toNat:Int)=(m:Int) % 128+128:=by rw [iK (by omega)];omega
   have ES:=Lib.hid es
   have HT:=Lib.hid htn
   have hgr:Hid ((aX (m / 128)).length+1≤gk):=Lib.hid (by rw [es] at hg;simpa using hg)
   have hM2:Hid (m / 128<18446744073709551616):=Lib.hid (by have:=HM.out;omega)
   have hlti:(127:Int)<(m:Int):=by omega
   clear es htn
   rcases HP.out with ⟨rfl,rfl,rfl⟩|hown
   ·go_wp2_with (at_builtin;refine tI iS rfl (.tmp 14) (.tmp 19) rfl wr A l.length l.length l rfl (UInt8.ofNat (m % 128+128)) [.int .u8 ((m:Int) % 128+128)] _ rfl rfl (Nat.le_refl _) HA.out HR.out wr.heap.size rfl rfl (by show [_]=[_];rw [HT.out]) (by unfold maxLen;omega) (by omega) ?_;intro v7 w7 hown7 hb7;have HOWN7:=Lib.hid hown7;have HB7:=Lib.hid hb7;clear hown7 hb7)
    go_roundg (gk-1)
    case measure=>have:=hgr.out;omega
    case rel=>exact ⟨m / 128,[UInt8.ofNat (m % 128+128)],by congr 1,hM2,Lib.hid (by rw [HE.out,ES.out];rfl),by have:=hgr.out;omega,Lib.hid (Or.inr HOWN7.out),HB7.out⟩
   ·have HOWN:=Lib.hid hown
    have hl10:Hid ((l++pre).length<maxLen∧((l++pre).length+1)*1≤140737488355328):=Lib.hid (by have:=hpre.out;simp [maxLen];omega)
    clear hown
    go_wp2_with (at_builtin;refine dd iS rfl (.tmp 14) (.tmp 19) rfl wr w.heap.size u5 (l++pre) (UInt8.ofNat (m % 128+128)) [.int .u8 ((m:Int) % 128+128)] _ rfl rfl HOWN.out wr.heap.size rfl rfl (by show [_]=[_];rw [HT.out]) hl10.out.1 hl10.out.2 ?_;intro v7 w7 hown7 hb7 hsp7;have HOWN7:=Lib.hid hown7;have HB7:=Lib.hid (HBW.out.trans hb7);clear hown7 hb7 hsp7)
    go_roundg (gk-1)
    case measure=>have:=hgr.out;omega
    case rel=>exact ⟨m / 128,pre++[UInt8.ofNat (m % 128+128)],by congr 1,hM2,Lib.hid (by rw [HE.out,ES.out];simp),by have:=hgr.out;omega,Lib.hid (Or.inr (by rw [←List.append_assoc];exact HOWN7.out)),HB7.out⟩
theorem yK (A:Option Addr) (cap:Nat) (l:List UInt8) (v:Nat) (w:World) (hv:v<18446744073709551616) (hA:A=none→l.length=0∧cap=0) (hc:l.length≤cap) (hcm:cap≤maxLen) (hm:l.length≤140737488355300) (hr:RowsAt cd w (Lo w.heap.size) A l) :
  Calls prog 46 #[.slice A l.length cap,.int .u64 (v:Int)] w (fP cd 5 w (l++aX v)) :=
 lG A cap l v w hv (fun h=>(hA h).1) hc hcm hm hr
theorem lH {w0:World} {base:Nat} {v:Value} {l:List UInt8} (n:Int) (w:World) (hown:OwnRows cd 5 w base v l) (hb:Below base w0 w) (h0:0≤n) (h1:n≤999) (hm:l.length≤140737488355300) :
  Calls prog 46 #[v,.int .u64 n] w fun e w'=>∃v',e = .returned v'∧OwnRows cd 5 w' base v' (l++aX n.toNat)∧Below base w0 w':=by
 obtain ⟨A,cap,rfl,hA,hr,hc,hcm⟩:=hown.form2
 have:=yK A cap l n.toNat w (by omega) hA hc hcm hm hr
 rw [show ((n.toNat:Nat):Int)=n by omega] at this
 refine this.mono ?_
 rintro e w' ⟨v',rfl,ho,hbl⟩
 exact ⟨v',rfl,ho.older hown.1,hb.trans (hbl.mono hown.1)⟩
theorem yL (A:Option Addr) (cap:Nat) (l:List UInt8) (p:Pr) (w:World) (hm:l.length≤140737488355200) (hr:RowsAt cd w (Lo w.heap.size) A l) :
  Calls prog 45 #[.slice A l.length cap,p.val] w (fP cd 5 w (l++tj p)):=by
 have HR:=Lib.hid hr
 have HV:=Lib.hid (fun W=>oS p W)
 obtain ⟨bv,hbv⟩:∃b,fo p=b:=⟨_,rfl⟩
 rw [hbv] at HV
 have HBV:=Lib.hid hbv
 obtain ⟨L,hL⟩:∃L,l++tj p=L:=⟨_,rfl⟩
 rw [hL]
 have HL:=Lib.hid hL
 clear hr hbv hL
 obtain ⟨a,b,c⟩:=p
 unfold Pr.val at *
 have i0:∀w:World,(Instr.index 150 (.agg #[.int .i64 a,.int .i64 b,.int .i64 c]) (.int .i64 0)).run prog w = .ok (.int .i64 a) w:=fun _=>by kernel_rfl
 have i1:∀w:World,(Instr.index 150 (.agg #[.int .i64 a,.int .i64 b,.int .i64 c]) (.int .i64 1)).run prog w = .ok (.int .i64 b) w:=fun _=>by kernel_rfl
 have i2:∀w:World,(Instr.index 150 (.agg #[.int .i64 a,.int .i64 b,.int .i64 c]) (.int .i64 2)).run prog w = .ok (.int .i64 c) w:=fun _=>by kernel_rfl
 have HN:Hid (OwnRows cd 5 (w.alloc (.cells #[.int .i64 a,.int .i64 b,.int .i64 c] 23)) (w.heap.size+1) (.slice none 0 0) []):=Lib.hid (OwnRows.nil _ _ _ _ (by simp))
 have HRA:Hid (RowsAt cd (w.alloc (.cells #[.int .i64 a,.int .i64 b,.int .i64 c] 23)) (oL (w.alloc (.cells #[.int .i64 a,.int .i64 b,.int .i64 c] 23)) (.slice none 0 0)) A l):=Lib.hid (HR.out.same (fun b hb=>Below.heap_alloc w _ b hb) fun b hb=>⟨Nat.lt_of_lt_of_le hb (by simp),fun e=>by cases e⟩)
 go_enter func45,ntmps45
 go_wp2_with (at_builtin;refine rc iS rfl (.const (.slice none 0 0)) (.tmp 8) rfl _ (w.heap.size+1) _ [] l l.length rfl A cap rfl HN.out rfl HRA.out (by simp [maxLen];omega) (by simp;omega) ?_;intro v3 w3 hown3 hb3 hsp3;rw [List.nil_append] at hown3;have HOWN3:=Lib.hid hown3;have hb4:Below (w.alloc (.cells #[.int .i64 a,.int .i64 b,.int .i64 c] 23)).heap.size (w.alloc (.cells #[.int .i64 a,.int .i64 b,.int .i64 c] 23)) w3:=(by simpa using hb3);obtain ⟨hc3,hf3⟩:=bh hb4;have hz3:w.heap.size<w3.heap.size:=(by have:=hb4.size;simp at this;omega);have HB3:=Lib.hid (Below.tr (Below.al (Below.refl _ w) _) hb4);clear hown3 hb3 hb4 hsp3)
 refine (HV.out _).mono ?_
 rintro e w4 ⟨rfl,hb4⟩
 have HOWN4:=Lib.hid (HOWN3.out.below (B:=w3.heap.size) hb4 (Nat.le_refl _))
 obtain ⟨hc4,hf4⟩:=bh hb4
 have hz4:w.heap.size<w4.heap.size:=by have:=hb4.size;omega
 have HB4:Hid (Below w.heap.size w w4):=Lib.hid (Below.tr HB3.out hb4)
 clear hb4
 cases bv with
 | false =>
  have HL0:Hid (L=l):=Lib.hid (by
   rw [←HL.out]
   unfold tj
   rw [if_neg (by rw [HBV.out];simp),List.append_nil])
  go_wp2_with fail
  go_ret
  exact ⟨_,rfl,by rw [HL0.out];exact HOWN4.out.older (by omega),HB4.out⟩
 | true =>
  obtain ⟨a0,a1,b0,b1,c0,c1⟩:=lJ.1 HBV.out
  dsimp only at a0 a1 b0 b1 c0 c1
  have HL0:Hid (L=l++aX a.toNat++aX b.toNat++aX c.toNat):=Lib.hid (by
   rw [←HL.out]
   unfold tj nr
   rw [if_pos HBV.out]
   simp)
  have wa:IntKind.u64.wrap a=a:=IntWalk.u64_in _ (by omega)
  have wb:IntKind.u64.wrap b=b:=IntWalk.u64_in _ (by omega)
  have wc:IntKind.u64.wrap c=c:=IntWalk.u64_in _ (by omega)
  have HLa:Hid ((aX a.toNat).length≤10∧(aX b.toNat).length≤10):=Lib.hid ⟨i5 9 _ (by
   have e70:(2:Nat) ^ (7*(9+1))=1180591620717411303424:=by decide
   omega),i5 9 _ (by
   have e70:(2:Nat) ^ (7*(9+1))=1180591620717411303424:=by decide
   omega)⟩
  have HRG:=Lib.hid (And.intro (And.intro a0 a1) (And.intro (And.intro b0 b1) (And.intro c0 c1)))
  clear a0 a1 b0 b1 c0 c1
  go_wp2_with fail
  clear hc3 hf3 hc4 hf4
  refine wp_loop_rounds 4 ?_
  rw [rounds_succ]
  go_wp2_with fail
  refine (lH a _ HOWN4.out (Below.refl _ _) HRG.out.1.1 (by have:=HRG.out.1.2;omega) (by omega)).mono ?_
  rintro e w5 ⟨v5,rfl,hown5,hb5⟩
  have HOWN5:=Lib.hid hown5
  have HB5:Hid (Below w.heap.size w w5):=Lib.hid (HB4.out.trans (hb5.mono (by omega)))
  clear hown5 hb5
  go_wp2_with fail
  rw [rounds_succ]
  go_wp2_with fail
  refine (lH b _ HOWN5.out (Below.refl _ _) (by have:=HRG.out.2.1.1;omega) (by have:=HRG.out.2.1.2;omega) (by have:=HLa.out.1;rw [List.length_append];omega)).mono ?_
  rintro e w6 ⟨v6,rfl,hown6,hb6⟩
  have HOWN6:=Lib.hid hown6
  have HB6:Hid (Below w.heap.size w w6):=Lib.hid (HB5.out.trans (hb6.mono (by omega)))
  clear hown6 hb6
  go_wp2_with fail
  rw [rounds_succ]
  go_wp2_with fail
  refine (lH c _ HOWN6.out (Below.refl _ _) (by have:=HRG.out.2.2.1;omega) HRG.out.2.2.2 (by have:=HLa.out;rw [List.length_append,List.length_append];omega)).mono ?_
  rintro e w7 ⟨v7,rfl,hown7,hb7⟩
  have HOWN7:=Lib.hid hown7
  have HB7:Hid (Below w.heap.size w w7):=Lib.hid (HB6.out.trans (hb7.mono (by omega)))
  clear hown7 hb7
  go_wp2_with fail
  rw [rounds_succ]
  go_wp2_with fail
  go_ret
  exact ⟨_,rfl,by rw [HL0.out];exact HOWN7.out.older (by omega),HB7.out⟩
end Go.Proofs.YtdaajdflefnjfaaGreat
