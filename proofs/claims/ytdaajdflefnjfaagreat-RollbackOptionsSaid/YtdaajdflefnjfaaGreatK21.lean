/- Part 21 of 24 of the proof of rollbackOptions_holds (no condition). -/
import Derived.Test.YtdaajdflefnjfaaGreatK20
import Derived.RangeFuncBound
import Derived.RangeFuncCalls
import Derived.Shelf.Abstract
import Derived.Shelf.RegionOpen
import Derived.OwnWalkIn
import Derived.TacticsInMore
import Derived.LoopNIn
import Derived.LoopIn
import Derived.Maps.OwnSet
import Derived.Maps.RangeRun
set_option linter.unusedVariables false
set_option linter.unusedSimpArgs false
set_option maxRecDepth 100000
set_option maxHeartbeats 64000000
namespace Go.Proofs.YtdaajdflefnjfaaGreat
open Go.RowKit Go.Proofs.Tryz
section
open Go.Shelf
attribute [local go_sem] Oper.semAt_some
abbrev BE:=Int×Sv
def Fk (x:BE):Array Value:=#[.int .i64 x.1,.agg #[.int .i64 x.2.label,.int .i64 x.2.at_]]
def bk (zs:List Sv) (k:Nat):List BE:=(List.range k).map fun j=>(((zs.length-1-j:Nat):Int),zs[zs.length-1-j]?.getD ⟨0,0⟩)
theorem Ib (zs:List Sv) (k:Nat):bk zs (k+1)=bk zs k++[(((zs.length-1-k:Nat):Int),zs[zs.length-1-k]?.getD ⟨0,0⟩)]:=by simp [bk,List.range_succ]
theorem CU (zs:List Sv) (k:Nat):(bk zs k).length=k:=by simp [bk]
theorem Kb (zs:List Sv):(bk zs zs.length).map (·.2)=zs.reverse:=by
 apply List.ext_getElem
 ·simp [bk]
 ·intro i h1 h2
  simp only [bk,List.length_map,List.length_range] at h1
  simp only [bk,List.getElem_map,List.getElem_range,List.getElem_reverse]
  rw [List.getElem?_eq_getElem (by omega)]
  rfl
def KpT (T:Nat→Prop) (W W':World):Prop:=∀b,T b→W'.heap[b]? = W.heap[b]?
theorem KpT.cell {T:Nat→Prop} {W W':World} (h:KpT T W W') {b o:Nat} (hb:T b):W'.cell? ⟨b,o,none⟩=W.cell? ⟨b,o,none⟩:=by
 simp only [World.cell?,h b hb]
theorem Ic (n:Nat) (hn:1≤n) (l Bs b off cap:Nat) (zs:List Sv) (hreach:zs.length*16≤140737488351232) (T:Nat→Prop) (hb:T b) (hB:T Bs) (J Jx:List BE→World→Prop)
  (hY:∀pre x W,J pre W→pre.length<zs.length→YieldAt Fence.wide (n-1) prog l (Fk x) W fun e W' =>
   (e = .returned (.bool true)∧J (pre++[x]) W'∧KpT T W W')∨(e = .returned (.bool false)∧Jx (pre++[x]) W'))
  (W:World) (hBs:W.cell? ⟨Bs,0,none⟩=some (.slice (some ⟨b,off,none⟩) zs.length cap))
  (hc:∀j (h:j<zs.length),W.cell? ⟨b,off+j*2,none⟩=some (.int .i64 (zs[j]?.getD ⟨0,0⟩).label)∧W.cell? ⟨b,off+j*2+1,none⟩=some (.int .i64 (zs[j]?.getD ⟨0,0⟩).at_)) (h0:J [] W) :
  CallsIn Fence.wide n prog 66 #[.func (.yield l) #[] #[],.pointer (some ⟨Bs,0,none⟩)] W fun e W'=>(∃v,e = .returned v)∧
   ((∃ys,ys.map (·.2)=zs.reverse∧J ys W')∨(∃pre,True∧Jx pre W')):=by
 refine callsIn_of_wp func66 rfl trivial ?_ rfl
 simp only [ntmps66,List.size_toArray,List.length_cons,List.length_nil,Nat.reduceAdd,Nat.reduceSub,Array.replicate_succ,Array.replicate_zero,List.push_toArray,List.append_toArray,List.nil_append,List.cons_append]
 gi_wp2
 gi_loopw [3] (fun i wr=>∃k:Nat,(k=zs.length∧i = .int .i64 (-1)∨∃m:Nat,m+1+k=zs.length∧i = .int .i64 (m:Int))∧J (bk zs k) wr∧KpT T W wr)
  (fun i _=>(intOf i+1).toNat)
 case atStart =>
  refine ⟨0,?_,h0,fun _ _=>rfl⟩
  rcases Nat.eq_zero_or_pos zs.length with h|h
  ·left;rw [h];exact ⟨rfl,by simp⟩
  ·right;exact ⟨zs.length-1,by omega,by congr 1;omega⟩
 case round =>
  obtain ⟨k,hik,hJs,hnx⟩:=hrel
  have hBs':=(hnx.cell hB).trans hBs
  rcases hik with ⟨rfl,rfl⟩|⟨m,hm,rfl⟩
  ·gi_wp2
   go_end0
   exact ⟨⟨_,rfl⟩,.inl ⟨_,Kb zs,hJs⟩⟩
  ·have hlt:m<zs.length:=by omega
   have hcx1:=(hnx.cell hb).trans (hc m (by omega)).1
   have hcx2:=(hnx.cell hb).trans (hc m (by omega)).2
   have hbk:bk zs (k+1)=bk zs k++[((m:Int),zs[m]?.getD ⟨0,0⟩)]:=by
    rw [Ib,show zs.length-1-k=m by omega]
   obtain ⟨x,hx⟩:∃x,zs[m]?.getD ⟨0,0⟩=x:=⟨_,rfl⟩
   rw [hx] at hcx1 hcx2 hbk
   clear hx
   obtain ⟨fn,tmps,assign,body,hy,hR⟩:=hY _ ((m:Int),x) wr hJs (by rw [CU];omega)
   unfold Fk at hy
   dsimp only at hy
   gi_wp2
   refine hR.mono ?_
   rintro e W3 (⟨rfl,hJ3,hk3⟩|⟨rfl,hJx3⟩)
   ·gi_wp2
    go_roundw
    case rel =>
     refine ⟨k+1,?_,by rw [hbk];exact hJ3,fun b hb=>(hk3 b hb).trans (hnx b hb)⟩
     cases m with
     | zero=>left;exact ⟨by omega,by simp⟩
     | succ m=>right;exact ⟨m,by omega,by congr 1;omega⟩
    case measure=>first|(simp [intOf];done)|(simp [intOf];omega)
   ·gi_wp2
    refine bodyPost_ret (results_none rfl _ _ _) rfl ?_
    exact ⟨⟨_,rfl⟩,.inr ⟨_,trivial,hJx3⟩⟩
theorem Ie (n l Bs:Nat) (A:Option Addr) (cap:Nat) (J:List BE→World→Prop) (W:World) (hBs:W.cell? ⟨Bs,0,none⟩=some (.slice A 0 cap)) (h0:J [] W) :
  CallsIn Fence.wide n prog 66 #[.func (.yield l) #[] #[],.pointer (some ⟨Bs,0,none⟩)] W fun e W'=>(∃v,e = .returned v)∧J [] W':=by
 refine callsIn_of_wp func66 rfl trivial ?_ rfl
 simp only [ntmps66,List.size_toArray,List.length_cons,List.length_nil,Nat.reduceAdd,Nat.reduceSub,Array.replicate_succ,Array.replicate_zero,List.push_toArray,List.append_toArray,List.nil_append,List.cons_append]
 gi_wp2
 gi_loopw [3] (fun i wr=>i = .int .i64 (-1)∧J [] wr) (fun _ _=>0)
 case atStart=>exact ⟨rfl,h0⟩
 case round =>
  obtain ⟨rfl,hJs⟩:=hrel
  gi_wp2
  go_end0
  exact ⟨⟨_,rfl⟩,hJs⟩
theorem CV (n:Nat) (hn:1≤n) (Bs:Nat) (zs:List Sv) (hreach:zs.length*16≤140737488351232) (T S:Nat→Prop) (w:World) (A:Option Addr) (cap:Nat) (hBs:w.cell? ⟨Bs,0,none⟩=some (.slice A zs.length cap)) (hR:RowsAt iF w S A zs) (hS:∀b,S b→T b∧b<w.heap.size) (hT:T Bs) (hlt:Bs<w.heap.size) :
  SeqStopsK Fence.wide n prog 66 #[.pointer (some ⟨Bs,0,none⟩)] Fk (KpT T) (fun ys=>ys.map (·.2)=zs.reverse) (fun _=>True) zs.length w:=fun l J Jx W hW _ _ hY h0=>by
 have hc':=(hW.cell (p:=⟨Bs,0,none⟩) hlt).trans hBs
 rcases Nat.eq_zero_or_pos zs.length with hz|hz
 ·obtain rfl:zs=[]:=List.eq_nil_of_length_eq_zero hz
  exact (Ie n l Bs A cap J W hc' h0).mono fun e W' ⟨he,hj⟩=>⟨he,.inl ⟨[],rfl,hj⟩⟩
 ·obtain ⟨b,off,cs,rfl,hb,_,_⟩:=hR.get (i:=0) hz
  refine Ic n hn l Bs b off cap zs hreach T (hS b hb).1 hT J Jx hY W hc' (fun j hj=>?_) h0
  obtain ⟨b',off',cs',e1,_,h5,h6⟩:=hR.getx hj rfl
  injection e1 with e1
  injection e1 with e1 e2
  subst e1
  subst e2
  have h5:cs'=[.int .i64 zs[j].label,.int .i64 zs[j].at_]:=h5
  subst h5
  rw [List.getElem?_eq_getElem hj,Option.getD_some]
  have k0:=h6 0 (by decide)
  have k1:=h6 1 (by decide)
  exact ⟨(hW.cell (p:=⟨b,off+j*2,none⟩) (hS b hb).2).trans k0,(hW.cell (p:=⟨b,off+j*2+1,none⟩) (hS b hb).2).trans k1⟩
end
instance:ARR prog 75 2 42 1 [.slice none 0 0,.slice none 0 0]:=by
 have h:(prog.info? 75).bind (·.zero)=some (.agg #[.slice none 0 0,.slice none 0 0]):=by kernel_rfl
 refine ⟨by kernel_rfl,by kernel_rfl,?_⟩
 obtain ⟨i,h1,h2⟩:=Option.bind_eq_some_iff.1 h
 exact ⟨i,_,h1,h2,rfl⟩
instance:TI prog 75 true 2:=.of (by kernel_rfl)
instance:TZ prog 75 [.slice none 0 0,.slice none 0 0]:=.of (by kernel_rfl) rfl
theorem LI (L:List Sv):FSpec prog 27 [.one (.sl iF L)] [] [0] (.c (.clo 66 [0])) [(0,some (.box 25 [.sl iF L]))]:=by
 refine bJ func27 ?_
 repeat' (first
  | refine af ?_ ?_
  | (refine aa 0 rfl ?_;refine sx (Fj (ks:=[1]) rfl rfl) ?_)
  | refine en ?_
  | exact ah|refine ae fun hb=>?_
  | (refine aP (qf [(0,1)]) ?_;exact ab))
section
variable {P:Program} {Q:Exit→Act→World→Prop} {s:Mst} {c0:Ctx}
theorem yu {w:World} {S:Nat→Prop} {ρ:Nat→Value} {args:List V0} {vs:List Value} {nt:Nat} (hS:∀b,S b→b<w.heap.size) (ha:All2 (V0.rep w S ρ) args vs) (hok:args.all (fun x=>V0.in_ [] x)=true) (hn:args.length≤nt) :
  Rp { w0:=w,S:=S,X:=fun _=>False,nt:=nt,K:=[],ρ0:=ρ,hS:=hS,hX:=fun _ h=>h.elim } (Kt args []) ρ { tmps:=vs.toArray++Array.replicate (nt-vs.toArray.size) undef,defers:=[] } w:=by
 have hlen:=ha.length
 have hF0:∀b,S b→Fz { w0:=w,S:=S,X:=fun _=>False,nt:=nt,K:=[],ρ0:=ρ,hS:=hS,hX:=fun _ h=>h.elim } (Kt args []).h ρ w b∧w.heap[b]? = w.heap[b]?:=fun b hb=>⟨⟨.inl hb,hS b hb,fun k bx hk=>by cases hk⟩,rfl⟩
 refine ⟨rfl,?_,Frx.refl _ _,fun i=>?_,fun k b hk=>(by cases hk),fun k b g hk hg=>(by cases hk),fun k k' b b' g hk hk' hg hg'=>(by cases hk),fun k hk=>(by cases hk),⟨fun k hk=>rfl,fun k i hk=>?_,fun k k' b hk hb2=>(by cases hb2)⟩⟩
 ·show (vs.toArray++Array.replicate (nt-vs.toArray.size) undef).size=nt
  simp
  omega
 ·show TV.rep _ _ _ (match args[i]? with|some x=>.v x|none=>.c .any) _
  cases hi:args[i]? with
  | none=>trivial
  | some x =>
   obtain ⟨v,hv,hx⟩:=ha.get hi
   have hil:i<vs.length:=(List.getElem?_eq_some_iff.1 hv).1
   have e1:(vs.toArray++Array.replicate (nt-vs.toArray.size) undef).getD i undef=v:=by
    rw [Array.getD_eq_getD_getElem?,Array.getElem?_append_left (by simpa using hil)]
    simp [hv]
   show V0.rep _ _ _ x ((vs.toArray++Array.replicate (nt-vs.toArray.size) undef).getD i undef)
   rw [e1]
   exact hx.mono hF0 fun _ _=>rfl
 ·show TV.has k (match args[i]? with|some x=>.v x|none=>.c .any)=false
  cases hi:args[i]? with
  | none=>rfl
  | some x =>
   cases h9:TV.has k (.v x) with
   | false=>rfl
   | true=>have:=V0.in_has (List.all_eq_true.1 hok x (List.mem_of_getElem? hi)) h9;simp [aG] at this
def GW (P:Program) (c0:Ctx) (Q:Exit→Act→World→Prop) (x:Code) (s:Mst):Prop:=∀(ρ:Nat→Value) (a:Act) (w:World),Rp c0 s ρ a w→x.wp P Q a w
theorem nc {x y:Code} {nt:Nat} {fn:Func} {res:TV} (hc:c0.nt=nt) (hk:c0.K=[]) (hF:∀s' ρ' a' w',qa P fn [] res [] .ret s'→Rp c0 s' ρ' a' w'→Q .ret a' w') (h:AW P nt [] x (lp (GW P c0 Q y) (qa P fn [] res [])) s):GW P c0 Q (.seq x y) s:=fun ρ a w hr=>by
 refine wp_seq (wp_mono (h c0 ρ a w hc hk hr) ?_)
 rintro e a' w' ⟨s',ρ',hq,hr'⟩
 cases e with
 | normal=>exact hq ρ' a' w' hr'
 | ret=>exact hF s' ρ' a' w' hq hr'
 | _=>obtain ⟨h1|h1,_⟩:=hq <;> cases h1
theorem CW {x y:Code} {nt:Nat} {fn:Func} {res:TV} (s2:Mst) (hc:c0.nt=nt) (hk:c0.K=[]) (hF:∀s' ρ' a' w',qa P fn [] res [] .ret s'→Rp c0 s' ρ' a' w'→Q .ret a' w') (h:AW P nt [] x (lp (fun s'=>Le nt [] s' s2) (qa P fn [] res [])) s) (h2:GW P c0 Q y s2):GW P c0 Q (.seq x y) s:=fun ρ a w hr=>by
 refine wp_seq (wp_mono (h c0 ρ a w hc hk hr) ?_)
 rintro e a' w' ⟨s',ρ',hq,hr'⟩
 cases e with
 | normal =>
  obtain ⟨ρ2,hr2⟩:=hq c0 ρ' a' w' hc hk hr'
  exact h2 ρ2 a' w' hr2
 | ret=>exact hF s' ρ' a' w' hq hr'
 | _=>obtain ⟨h1|h1,_⟩:=hq <;> cases h1
theorem yv {x:Code} (h:GW P c0 (Exit.noGoto Q) x s):GW P c0 Q (.scope x) s:=fun ρ a w hr=>wp_scope_straight (h ρ a w hr)
theorem Fl {x y:Code} (h:GW P c0 (Exit.then (y.wp P Q) Q) x s):GW P c0 Q (.seq x y) s:=fun ρ a w hr=>wp_seq (h ρ a w hr)
theorem LJ {x:Code} {nt:Nat} {s':Mst} (hc:c0.nt=nt) (hk:c0.K=[]) (h:Le nt [] s s') (h1:GW P c0 Q x s'):GW P c0 Q x s:=fun ρ a w hr=>by
 obtain ⟨ρ',hr'⟩:=h c0 ρ a w hc hk hr
 exact h1 ρ' a w hr'
theorem Bt {fn:Func} {res:TV} {e:Exit} {ρ:Nat→Value} {a:Act} {w:World} (h:qa P fn [] res [] e s) (hr:Rp c0 s ρ a w) (hres:res.in_ []=true) (ρ2:Nat→Value) :
  ∃v,(results fn a.tmps).run P w = .ok v w∧res.rep w (fun b=>(c0.S b∨c0.w0.heap.size≤b)∧b<w.heap.size) ρ2 v:=by
 obtain ⟨_,xs,p,hxs,_,hpart,hle⟩:=h
 obtain ⟨v,hv,hvr⟩:=ln hr hxs
 have h1:=hpart.tv hr hle hvr
 refine ⟨v,hv,h1.mono (fun b hb=>⟨⟨hb.1,hb.2.1⟩,rfl⟩) fun k hk=>?_⟩
 have:=TV.in_has hres hk
 simp [aG] at this
theorem oC {w:World} {F:Nat→Prop}:∀L:List Int,Reps fk w F L (L.map (Value.int .i64))
 | []=>rfl
 | _ :: l=>⟨_,_,rfl,rfl,oC l⟩
theorem qG {w:World} {F:Nat→Prop}:∀{L:List Int} {xs:List Value},Reps fk w F L xs→xs=L.map (Value.int .i64)
 | [],_,h=>h
 | _ :: _,_,⟨cs,rest,e,h1,h2⟩=>by
  have h1:cs=[.int .i64 _]:=h1
  rw [e,h1,qG h2]
  rfl
theorem sW {t:Array Value} {i j:Nat} {v:Value}:(t.setIfInBounds i v).getD j undef=if i=j∧i<t.size then v else t.getD j undef:=by
 rw [Array.getD_eq_getD_getElem?,Array.getD_eq_getD_getElem?,Array.getElem?_setIfInBounds]
 by_cases h:i=j
 ·subst h
  by_cases h2:i<t.size
  ·simp [h2]
  ·simp [h2]
 ·simp [h]
theorem qH {w:World} {base:Nat} {e:TypeId} {n m:Nat} {v:Value} {xs:List Value} (h:w.ownsRow base e n v m xs):w.ownsRow 0 e n v m xs:=⟨h.1,h.2.imp id fun ⟨g,cap,cur,e,_,r⟩=>⟨g,cap,cur,e,Nat.zero_le _,r⟩⟩
theorem wk {w:World} {base:Nat} {e:TypeId} {n m:Nat} {v:Value} {xs:List Value} (h:w.ownsRow 0 e n v m xs) (hb:∀g,kb v=some g→base≤g):w.ownsRow base e n v m xs:=⟨h.1,h.2.imp id fun ⟨g,cap,cur,e,_,r⟩=>⟨g,cap,cur,e,hb g (by rw [e];rfl),r⟩⟩
theorem oD {w w':World} {base:Nat} {e:TypeId} {n m:Nat} {v:Value} {xs:List Value} (h:w.ownsRow base e n v m xs) (hb:∀g,kb v=some g→g<w.heap.size→w'.heap[g]? = w.heap[g]?):w'.ownsRow base e n v m xs:=by
 refine ⟨h.1,?_⟩
 rcases h.2 with hn|⟨g,cap,cur,hv,hg,hh,rest⟩
 ·exact .inl hn
 ·exact .inr ⟨g,cap,cur,hv,hg,by rw [hb g (by rw [hv];rfl) (Array.getElem?_eq_some_iff.1 hh).1];exact hh,rest⟩
theorem ng {w:World} {base:Nat} {e:TypeId} {n m:Nat} {v:Value} {xs:List Value} (h:w.ownsRow base e n v m xs) {g:Nat} (hg:kb v=some g):base≤g∧∃cur,w.heap[g]? = some (.cells cur e (0,0)):=by
 rcases h.2 with ⟨hv,_⟩|⟨g',cap,cur,hv,hb,hh,_⟩
 ·rw [hv] at hg;cases hg
 ·rw [hv] at hg
  injection hg with hg
  subst hg
  exact ⟨hb,cur,hh⟩
end
theorem If {P:Program} {o:Oper} {s:Mst} {ts:Array TypeId} {x y:Operand} {a b:Int} (ho:o.op = .call { callee:=.builtin .max,args:=#[x,y],argTypes:=ts }) (hx:s.ev x = .i a) (hy:s.ev y = .i b):LOp P o s [] ⟨.i (max a b),[],[]⟩ :=
 fy (by rw [ho];rfl) hx hy fun ev w hx hy=>by
  have h:(if b > a then b else a)=max a b:=by rw [Int.max_def];split <;> split <;> omega
  simp [execOp,ho,hx,hy,resolve,invoke,builtin,Builtin.max_,Builtin.max2,h]
theorem Af (s:ByteArray):FSpec prog 34 [.one (.sc (.string s))] [] [] (.b (bE s.toList)) [] :=
 aA (fun b W=>by kernel_rfl) rfl fun w S ρ vs _ h=>by
  match vs,h with
  | [_],⟨rfl,_⟩=>exact (tn s w).mono fun e w' h=>⟨_,h.1,by rw [h.2];exact Below.refl _ _,rfl⟩
theorem Fm (r:Rs) (x:Am):FSpec prog 196 [r.a,x.a] [] [] (.b (aC r x)) [] :=
 aA (fun b W=>by kernel_rfl) rfl fun w S ρ vs _ h=>by
  match vs,h with
  | [_,_],⟨h1,h2,_⟩=>rw [Rs.open h1,Am.open h2];exact (De r _ _ w).mono fun _ _=>dk
theorem LK:∀(x:Ex) (d lev n:Nat),lev≤5→n≤24→FSpec prog 138 [x.a d,iV lev,.one (.ptr 0 0)] [(0,.box 3 [.sc (.int .i64 n)])] [] (.i (ja x lev n).1) [(0,some (.box 3 [.sc (.int .i64 (ja x lev n).2)]))]:=by
 refine Ex.ind (fun k a l ih=>?_)
 intro d lev n hlev hn
 obtain ⟨r,hr⟩:∃r,ja (.mk k a l) lev n=r:=⟨_,rfl⟩
 rw [hr]
 rw [AF] at hr
 show FSpec prog 138 [.ag (Ed d k a l),iV lev,.one (.ptr 0 0)] [(0,.box 3 [.sc (.int .i64 n)])] [] (.i r.1) [(0,some (.box 3 [.sc (.int .i64 r.2)]))]
 refine bJ func138 ?_
 refine bY (fun c ρ a w hr=>l9 (t:=0) (i:=4) hr rfl rfl) (fun hx=>?_)
 obtain ⟨hlen,hne⟩:=hx
 by_cases hc:4<lev∨24<n+1
 ·rw [if_pos hc] at hr
  obtain rfl:=hr
  repeat' (first
   | refine af ?_ ?_
   | refine en ?_
   | exact ah|refine ae fun hb=>?_
   | (refine aP (qf []) ?_;exact ab))
  all_goals (exfalso;omega)
 rw [if_neg hc] at hr
 repeat' (first
  | refine af ?_ ?_
  | refine en ?_
  | exact ah|refine ae fun hb=>?_)
 refine ao (fun x:Nat×Nat×Nat=>x.1≤l.length∧x.2.1≤24∧x.2.2≤5∧my (l.drop x.1) lev x.2.1 x.2.2=r) (fun x=>cy [0] [(1,.i lev),(2,.c (.ptr 0 0)),(7,.i x.2.2),(25,.c (.sl (oN d) l)),(26,.i l.length),(27,.i x.1)] [(0,.box 3 [.sc (.int .i64 x.2.1)])]) (fun x=>l.length-x.1) (0,n+1,0) ⟨Nat.zero_le _,by dsimp only;omega,Nat.zero_le _,hr⟩ (by exact ap (qf [])) ?_
 rintro ⟨i,n1,m⟩ ⟨hi,hn1,hm,hs⟩
 dsimp only at *
 by_cases hlt:i<l.length
 case neg =>
  rw [List.drop_eq_nil_of_le (by omega)] at hs
  obtain rfl:=hs
  repeat' (first
   | refine af ?_ ?_
   | refine en ?_
   | exact ah|refine ae fun hb=>?_
   | (refine aP (qf []) ?_;exact ab))
 rw [List.drop_eq_getElem_cons hlt,rm] at hs
 obtain ⟨e,rfl⟩:=hne (by omega)
 obtain ⟨⟨a1,n2⟩,h1⟩:∃p,ja l[i] (lev+1) n1=p:=⟨_,rfl⟩
 have h5:a1≤5∧(a1≠0→n2≤24):=by
  rcases AG l[i] (lev+1) n1 with ⟨b1,b2,b3⟩|⟨b1,b2,b3⟩ <;> rw [h1] at *
  ·injection b3;omega
  ·dsimp only at b2;omega
 have kS:FSpec prog 138 [l[i].a e,iV ((lev:Int)+1),.one (.ptr 0 0)] [(0,.box 3 [.sc (.int .i64 n1)])] [] (.i a1) [(0,some (.box 3 [.sc (.int .i64 n2)]))]:=by
  have:=ih l[i] (List.getElem_mem hlt) e (lev+1) n1 (by omega) hn1
  rw [h1] at this
  exact this
 rw [h1] at hs
 dsimp only at hs
 clear ih h1
 repeat' (first
  | refine af ?_ ?_
  | (refine aa 9 rfl ?_;first
   | (refine sx (If rfl rfl rfl) ?_)
   | (refine cH (qf [(0,0)]) (kS) ?_))
  | refine en ?_
  | exact ah|refine ae fun hb=>?_)
 ·obtain rfl:(0,n2)=r:=by rw [←hs,if_pos (by omega)]
  refine aP (qf []) ?_;exact ab
 ·refine ⟨(i+1,n2,max m a1),⟨by dsimp only;omega,by dsimp only;omega,by dsimp only;omega,by rw [←hs,if_neg (by omega)]⟩,by dsimp only;omega,?_⟩
  dsimp only
  exact ap (qf [])
theorem Ag (x:Ex) (d:Nat) {n:Nat} (hn:(if AE x then x.dep else 0:Nat)=n):FSpec prog 103 [x.a d] [] [] (.i n) []:=by
 have kM:=LK x d 1 0 (by decide) (by decide)
 rw [Gc,hn] at kM
 obtain ⟨m,hm⟩:∃m,(ja x 1 0).2=m:=⟨_,rfl⟩
 rw [hm] at kM
 refine bJ func103 ?_
 repeat' (first
  | refine af ?_ ?_
  | refine aa 9 rfl (cH (qf [(0,3)]) (kM) ?_)
  | refine en ?_
  | exact ah|refine ae fun hb=>?_
  | (refine aP (qf []) ?_;exact ab))
def MG (o:Option (List Tm)):List (Nat×Option Box):=match o with
 | some r=>[(0,some (.box 39 [.own 2])),(1,none),(2,some (.arr 31 cL r))]
 | none=>[(0,none),(1,none),(2,none)]
def mF:List Tm→List Tm→Tm→Int
 | [],acc,_=>if acc.length=8 then 4 else 0
 | b :: l,acc,a=>bif decide (a=b) then 0 else bif decide (a.name=b.name) then 13 else mF l acc a
theorem sX (b:Tm) (l acc:List Tm) (a:Tm):mF (b :: l) acc a=bif decide (a=b) then 0 else bif decide (a.name=b.name) then 13 else mF l acc a:=rfl
theorem yw (acc:List Tm) (a:Tm):∀l,(gv l acc a=none∧(mF l acc a=4∨mF l acc a=13))∨(∃r,gv l acc a=some r)∧mF l acc a=0
 | []=>by
  unfold gv mF
  by_cases h:acc.length=8
  ·rw [if_pos h,if_pos h];exact .inl ⟨rfl,.inl rfl⟩
  ·rw [if_neg h,if_neg h];exact .inr ⟨⟨_,rfl⟩,rfl⟩
 | b :: l=>by
  rw [jz,sX]
  cases decide (a=b) with
  | true=>exact .inr ⟨⟨_,rfl⟩,rfl⟩
  | false =>
   cases decide (a.name=b.name) with
   | true=>exact .inl ⟨rfl,.inr rfl⟩
   | false=>exact yw acc a l
theorem IY (acc:List Tm) (a:Tm) (h8:acc.length≤8) {c:Int} (hc:mF acc acc a=c) {R:Option (List Tm)} (hR:gv acc acc a=R):FSpec prog 140 [.one (.ptr 0 0),a.a] [(0,.box 39 [.own 1]),(1,.arr 31 cL acc)] [2] (.i c) (MG R):=by
 refine jd func140 rfl (fun b W=>by kernel_rfl) (by cases R <;> rfl) (Nat.le_of_ble_eq_true rfl) ?_
 repeat' (first
  | refine af ?_ ?_
  | refine en ?_
  | exact ah|refine ae fun hb=>?_)
 refine ao (fun i=>i≤acc.length∧mF (acc.drop i) acc a=c∧gv (acc.drop i) acc a=R) (fun i=>cy [0,1,3] [(0,.c (.ptr 0 0)),(3,.c (.ptr 3 0)),(9,.c (.own 1)),(10,.i acc.length),(11,.i i)] [(0,.box 39 [.own 1]),(1,.arr 31 cL acc),(3,.box 31 [.sc (.string a.name),.sc (.int .i64 a.am.mode),.sc (.int .i64 a.am.units)])]) (fun i=>acc.length-i) 0 ⟨Nat.zero_le _,hc,hR⟩ (by exact ap (qf [])) ?_
 rintro i ⟨hi,hc,hR⟩
 by_cases hlt:i<acc.length
 ·rw [List.drop_eq_getElem_cons hlt] at hc hR
  rw [sX] at hc
  rw [jz] at hR
  by_cases h1:a=acc[i]
  ·rw [decide_eq_true h1] at hc hR
   obtain rfl:=hc
   obtain rfl:=hR
   repeat' (first
    | refine af ?_ ?_
    | refine en ?_
    | exact ah|refine ae fun hb=>?_
    | (refine aP (qf [(2,1)]) ?_;exact ab))
  rw [decide_eq_false h1,cond_false] at hc hR
  by_cases h2:a.name=acc[i].name
  ·rw [decide_eq_true h2] at hc hR
   obtain rfl:=hc
   obtain rfl:=hR
   repeat' (first
    | refine af ?_ ?_
    | refine en ?_
    | exact ah|(refine ae fun hb=>?_;first|(exact absurd (by rw [h2]) hb)|skip)
    | (refine aP (qf []) ?_;exact ab))
  ·rw [decide_eq_false h2] at hc hR
   repeat' (first
    | refine af ?_ ?_
    | refine en ?_
    | exact ah|(refine ae fun hb=>?_;first|(exact absurd (toList_inj hb) h2)|skip))
   refine ⟨i+1,⟨by omega,hc,hR⟩,by omega,?_⟩
   exact ap (qf [])
 ·rw [List.drop_eq_nil_of_le (by omega)] at hc hR
  unfold mF at hc
  unfold gv at hR
  by_cases h9:acc.length=8
  ·rw [if_pos h9] at hc hR
   obtain rfl:=hc
   obtain rfl:=hR
   repeat' (first
    | refine af ?_ ?_
    | refine en ?_
    | exact ah|refine ae fun hb=>?_
    | (refine aP (qf []) ?_;exact ab))
  ·rw [if_neg h9] at hc hR
   obtain rfl:=hc
   obtain rfl:=hR
   repeat' (first
    | refine af ?_ ?_
    | (refine aa 8 rfl ?_;refine bc (ak rfl rfl (aI rfl rfl) (aO [a] rfl rfl rfl rfl) rfl aJ aJ) rfl rfl rfl ?_)
    | refine en ?_
    | exact ah|refine ae fun hb=>?_
    | (refine aP (qf [(2,35)]) ?_;exact ab))
theorem Ah (a:Tm):FSpec prog 139 [a.a] [] [] (.b (jY a)) []:=by
 have hu:=wK a.am.mode a.am.units
 unfold jY
 rw [show aR a.am=_ from hu]
 refine bJ func139 ?_
 repeat' (first
  | refine af ?_ ?_
  | (refine aa 9 rfl ?_;first
   | (refine cB [] (Af a.name) ?_)
   | (refine cB [] (Fm ⟨⟨#[]⟩,1,1,0⟩ a.am) ?_)
   | (refine cB [] (Fm ⟨⟨#[]⟩,2,8,0⟩ a.am) ?_))
  | refine en ?_
  | exact ah|refine ae fun hb=>?_)
 all_goals (refine pp ?_;simp [*])
theorem Ig:∀(x:Ex) (d:Nat) (acc:List Tm),acc.length≤8→FSpec prog 104 [x.a d,.one (.ptr 0 0)] [(0,.box 39 [.own 1]),(1,.arr 31 cL acc)] [2] (.b (BV x acc).isSome) (MG (BV x acc)):=by
 refine Ex.ind (fun k a l ih=>?_)
 intro d acc h8
 obtain ⟨R,hR⟩:∃R,BV (.mk k a l) acc=R:=⟨_,rfl⟩
 rw [hR]
 rw [zm] at hR
 show FSpec prog 104 [.ag (Ed d k a l),.one (.ptr 0 0)] [(0,.box 39 [.own 1]),(1,.arr 31 cL acc)] [2] (.b R.isSome) (MG R)
 refine jd func104 rfl (fun b W=>by kernel_rfl) (by cases R <;> rfl) (Nat.le_of_ble_eq_true rfl) ?_
 cases hE:l.isEmpty with
 | true =>
  obtain rfl:=List.isEmpty_iff.1 hE
  rw [hE,cond_true,wX] at hR
  cases hk:decide (k=0) && jY a with
  | false =>
   rw [hk] at hR
   obtain rfl:none=R:=hR
   repeat' (first
    | refine af ?_ ?_
    | refine aa 9 rfl (cB [] (Ah a) ?_)
    | refine en ?_
    | exact ah|refine ae fun hb=>?_
    | (refine aP (qf []) ?_;exact ab))
   all_goals (exfalso;revert hk;simp [*])
  | true =>
   rw [hk,cond_true] at hR
   obtain ⟨h0,h1⟩:k=0∧jY a=true:=by simpa using hk
   rcases yw acc a acc with ⟨e1,e2⟩|⟨⟨r,e1⟩,e2⟩
   ·obtain rfl:none=R:=e1.symm.trans hR
    rcases e2 with e2|e2
    all_goals
     repeat' (first
      | refine af ?_ ?_
      | (refine aa 9 rfl ?_;first
       | (refine cB [] (Ah a) ?_)
       | (refine cH (qf [(0,0),(1,1),(2,1001)]) (IY acc a h8 e2 e1) ?_))
      | refine en ?_
      | exact ah|(refine ae fun hb=>?_;first|(simp [h1] at hb;done)|skip)
      | (refine aP (qf []) ?_;exact ab))
   ·obtain rfl:some r=R:=e1.symm.trans hR
    repeat' (first
     | refine af ?_ ?_
     | (refine aa 9 rfl ?_;first
      | (refine cB [] (Ah a) ?_)
      | (refine cH (qf [(0,0),(1,1),(2,1001)]) (IY acc a h8 e2 e1) ?_))
     | refine en ?_
     | exact ah|(refine ae fun hb=>?_;first|(simp [h1] at hb;done)|skip)
     | (refine aP (qf [(2,1001)]) ?_;exact ab))
 | false =>
  have hl0:0<l.length:=List.length_pos_iff.2 fun e=>by rw [e] at hE;cases hE
  rw [hE,cond_false] at hR
  refine bY (fun c ρ a w hr=>l9 (t:=0) (i:=4) hr rfl rfl) (fun hx=>?_)
  obtain ⟨hlen,hne⟩:=hx
  obtain ⟨e,rfl⟩:=hne hl0
  cases hg:oZ k a l with
  | false =>
   rw [hg] at hR
   obtain rfl:none=R:=hR
   repeat' (first
    | refine af ?_ ?_
    | refine en ?_
    | exact ah|refine ae fun hb=>?_
    | (refine aP (qf []) ?_;exact ab))
   all_goals (exfalso;revert hg;simp [oZ, *];try omega)
  | true =>
   rw [hg,cond_true] at hR
   obtain ⟨⟨h1,h2⟩,h3⟩:(1≤k∧k≤(l.length:Int))∧a=jX:=by simpa [oZ] using hg
   subst h3
   repeat' (first
    | refine af ?_ ?_
    | refine en ?_
    | exact ah|(refine ae fun hb=>?_;first|(simp at hb;done)|skip))
   refine ao (fun x:Nat×List Tm=>x.1≤l.length∧x.2.length≤8∧Gf (l.drop x.1) x.2=R) (fun x=>cy [0,1,1000] [(1,.c (.ptr 0 0)),(44,.c (.sl (oN (e+1)) l)),(45,.i l.length),(46,.i x.1)] [(0,.box 39 [.own 1000]),(1000,.arr 31 cL x.2)]) (fun x=>l.length-x.1) (0,acc) ⟨Nat.zero_le _,h8,hR⟩ (by exact ap (qf [(1000,1)])) ?_
   rintro ⟨i,acc1⟩ ⟨hi,hc,hs⟩
   dsimp only at *
   by_cases hlt:i<l.length
   ·rw [List.drop_eq_getElem_cons hlt] at hs
    rw [rr] at hs
    have kS:=ih l[i] (List.getElem_mem hlt) e acc1 hc
    have hlen2:=Gh l[i] acc1
    clear ih
    cases h1:BV l[i] acc1 with
    | none =>
     rw [h1] at hs kS
     obtain rfl:none=R:=hs
     repeat' (first
      | refine af ?_ ?_
      | refine aa 9 rfl (cH (qf [(0,0),(1,1000),(2,1001)]) (kS) ?_)
      | refine en ?_
      | exact ah|refine ae fun hb=>?_
      | (refine aP (qf []) ?_;exact ab))
    | some r =>
     rw [h1] at hs kS
     have hlen3:=hlen2 r hc h1
     repeat' (first
      | refine af ?_ ?_
      | refine aa 9 rfl (cH (qf [(0,0),(1,1000),(2,1001)]) (kS) ?_)
      | refine en ?_
      | exact ah|refine ae fun hb=>?_)
     refine ⟨(i+1,r),⟨by dsimp only;omega,by dsimp only;omega,hs⟩,by dsimp only;omega,?_⟩
     exact ap (qf [(1000,1001)])
   ·rw [List.drop_eq_nil_of_le (by omega)] at hs
    obtain rfl:some acc1=R:=hs
    repeat' (first
     | refine af ?_ ?_
     | refine en ?_
     | exact ah|refine ae fun hb=>?_
     | (refine aP (qf [(2,1000)]) ?_;exact ab))
instance:TZ prog 39 [.slice none 0 0]:=.of (by kernel_rfl) rfl
theorem Ai (d:Nat) (x:Ex):FSpec prog 65 [x.a d] [] [] (.b (oO x)) []:=by
 obtain ⟨v,hv⟩:∃v,oO x=v:=⟨_,rfl⟩
 rw [hv]
 rw [Jd] at hv
 have kP:=Ig x d [] (by simp)
 have h0:=x.dep_pos
 refine bJ func65 ?_
 cases hk:AE x with
 | false =>
  rw [hk] at hv
  obtain rfl:false=v:=hv
  repeat' (first
   | refine af ?_ ?_
   | refine aa 9 rfl (cB [] (Ag x d (n:=0) (by rw [hk];rfl)) ?_)
   | refine en ?_
   | exact ah|refine ae fun hb=>?_
   | (refine aP (qf []) ?_;exact ab))
 | true =>
  rw [hk,Bool.true_and] at hv
  repeat' (first
   | refine af ?_ ?_
   | ((fail_if_success (first|refine xM 2 ?_|refine xN 2 ?_));refine en ?_)
   | exact ah|refine ae fun hb=>?_)
  refine jJ 3 0 1000 31 cL rfl rfl rfl rfl ?_
  cases hp:BV x [] with
  | none =>
   rw [hp] at kP hv
   obtain rfl:false=v:=hv
   repeat' (first
    | refine af ?_ ?_
    | (refine aa 9 rfl ?_;first
     | (refine cB [] (Ag x d (n:=x.dep) (by rw [hk];rfl)) ?_)
     | (refine cH (qf [(0,3),(1,1000),(2,1001)]) (kP) ?_))
    | refine en ?_
    | exact ah|refine ae fun hb=>?_
    | (refine aP (qf []) ?_;exact ab))
  | some r =>
   rw [hp] at kP hv
   obtain rfl:true=v:=hv
   repeat' (first
    | refine af ?_ ?_
    | (refine aa 9 rfl ?_;first
     | (refine cB [] (Ag x d (n:=x.dep) (by rw [hk];rfl)) ?_)
     | (refine cH (qf [(0,3),(1,1000),(2,1001)]) (kP) ?_))
    | refine en ?_
    | exact ah|refine ae fun hb=>?_
    | (refine aP (qf []) ?_;exact ab))
theorem LL (l:List Tm) (a:Tm):FSpec prog 206 [.one (.sl cL l),a.a] [] [] (.i (wY a 0 l)) []:=by
 obtain ⟨v,hv⟩:∃v,wY a 0 l=v:=⟨_,rfl⟩
 rw [hv]
 refine bJ func206 ?_
 refine bY (fun c ρ a w hr=>gc (t:=0) hr rfl) (fun hl0=>?_)
 repeat' (first
  | refine af ?_ ?_
  | refine en ?_
  | exact ah|refine ae fun hb=>?_)
 refine ao (fun i=>i≤l.length∧wY a i (l.drop i)=v) (fun i=>cy [3] [(0,.c (.sl cL l)),(3,.c (.ptr 3 0)),(7,.i l.length),(8,.i i)] [(3,.box 31 [.sc (.string a.name),.sc (.int .i64 a.am.mode),.sc (.int .i64 a.am.units)])]) (fun i=>l.length-i) 0 ⟨Nat.zero_le _,hv⟩ (by exact ap (qf [])) ?_
 rintro i ⟨hi,hs⟩
 by_cases hlt:i<l.length
 ·rw [List.drop_eq_getElem_cons hlt,tS] at hs
  repeat' (first
   | refine af ?_ ?_
   | refine en ?_
   | exact ah|refine ae fun hb=>?_)
  ·refine pp ?_
   rw [←hs];simp [*]
  ·refine ⟨i+1,⟨by omega,?_⟩,by omega,?_⟩
   ·rw [←hs];simp [*]
   ·exact ap (qf [])
 ·rw [List.drop_eq_nil_of_le (by omega)] at hs
  repeat' (first
   | refine af ?_ ?_
   | refine en ?_
   | exact ah|refine ae fun hb=>?_)
  refine pp ?_
  rw [←hs];rfl
theorem Fn (l:List Tm) (a:Tm) {v:Bool} (hv:ke a l=v):FSpec prog 143 [.one (.sl cL l),a.a] [] [] (.b v) []:=by
 refine bJ func143 ?_
 repeat' (first
  | refine af ?_ ?_
  | refine aa 9 rfl (cB [] (LL l a) ?_)
  | refine en ?_
  | exact ah|refine ae fun hb=>?_)
 refine pp ?_
 rcases tT a l 0 [] with ⟨h1,h2,_⟩|⟨i,_,h1,h2,_⟩
 ·rw [h1,←hv,h2];rfl
 ·rw [h1,←hv,h2];simp
theorem Fo:∀(x:Ex) (d:Nat) (acc:List Tm),acc.length+x.cnt≤1000→FSpec prog 109 [.one (.own 0),x.a d] [(0,.arr 31 cL acc)] [1] (.c (.own 1)) [(0,none),(1,some (.arr 31 cL (fM x acc)))]:=by
 refine Ex.ind (fun k a l ih=>?_)
 intro d acc hl
 rw [Ex.cnt_mk] at hl
 obtain ⟨R,hR⟩:∃R,fM (.mk k a l) acc=R:=⟨_,rfl⟩
 rw [hR]
 rw [lM] at hR
 show FSpec prog 109 [.one (.own 0),.ag (Ed d k a l)] [(0,.arr 31 cL acc)] [1] (.c (.own 1)) [(0,none),(1,some (.arr 31 cL R))]
 refine bJ func109 ?_
 cases hE:l.isEmpty with
 | true =>
  obtain rfl:=List.isEmpty_iff.1 hE
  rw [hE,cond_true,ik] at hR
  cases hh:ke a acc with
  | true =>
   rw [hh] at hR
   obtain rfl:acc=R:=hR
   repeat' (first
    | refine af ?_ ?_
    | refine aa 9 rfl (cB [0] (Fn acc a hh) ?_)
    | refine en ?_
    | exact ah|refine ae fun hb=>?_
    | (refine aP (qf [(1,0)]) ?_;exact ab))
  | false =>
   rw [hh] at hR
   obtain rfl:acc++[a]=R:=hR
   repeat' (first
    | refine af ?_ ?_
    | (refine aa 8 rfl ?_;refine bc (ak rfl rfl (aI rfl rfl) (aO [a] rfl rfl rfl rfl) rfl aJ aJ) rfl rfl rfl ?_)
    | refine aa 9 rfl (cB [0] (Fn acc a hh) ?_)
    | refine en ?_
    | exact ah|refine ae fun hb=>?_
    | (refine aP (qf [(1,20)]) ?_;exact ab))
 | false =>
  have hl0:0<l.length:=List.length_pos_iff.2 fun e=>by rw [e] at hE;cases hE
  rw [hE,cond_false] at hR
  refine bY (fun c ρ a w hr=>l9 (t:=1) (i:=4) hr rfl rfl) (fun hx=>?_)
  obtain ⟨hlen,hne⟩:=hx
  obtain ⟨e,rfl⟩:=hne hl0
  repeat' (first
   | refine af ?_ ?_
   | refine en ?_
   | exact ah|refine ae fun hb=>?_)
  refine ao (fun x:Nat×List Tm=>x.1≤l.length∧x.2.length+jx (l.drop x.1)≤1000∧gO (l.drop x.1) x.2=R) (fun x=>cy [0,1000] [(0,.c (.own 1000)),(22,.c (.sl (oN (e+1)) l)),(23,.i l.length),(24,.i x.1)] [(1000,.arr 31 cL x.2)]) (fun x=>l.length-x.1) (0,acc) ⟨Nat.zero_le _,by simpa using (by omega),hR⟩ (by exact ap (qf [(1000,0)])) ?_
  rintro ⟨i,acc1⟩ ⟨hi,hc,hs⟩
  dsimp only at *
  by_cases hlt:i<l.length
  ·rw [List.drop_eq_getElem_cons hlt] at hs hc
   rw [fS] at hs
   rw [gY] at hc
   have kS:=ih l[i] (List.getElem_mem hlt) e acc1 (by omega)
   have hlen2:=rp l[i] acc1
   obtain ⟨r,h1⟩:∃r,fM l[i] acc1=r:=⟨_,rfl⟩
   rw [h1] at hs kS hlen2
   clear ih h1
   repeat' (first
    | refine af ?_ ?_
    | refine aa 9 rfl (cH (qf [(0,1000),(1,1001)]) (kS) ?_)
    | refine en ?_
    | exact ah|refine ae fun hb=>?_)
   refine ⟨(i+1,r),⟨by dsimp only;omega,by dsimp only;omega,hs⟩,by dsimp only;omega,?_⟩
   exact ap (qf [(1000,1001)])
  ·rw [List.drop_eq_nil_of_le (by omega)] at hs
   obtain rfl:acc1=R:=hs
   repeat' (first
    | refine af ?_ ?_
    | refine en ?_
    | exact ah|refine ae fun hb=>?_
    | (refine aP (qf [(1,1000)]) ?_;exact ab))
theorem Kc (d:Nat) (x:Ex) {L:List Tm} (hL:cY x=L):FSpec prog 68 [x.a d] [] [] (.c (.sl cL L)) []:=by
 subst hL
 unfold cY
 refine bJ func68 ?_
 cases hv:oO x with
 | false =>
  repeat' (first
   | refine af ?_ ?_
   | refine aa 9 rfl (cB [] (Ai d x) ?_)
   | refine en ?_
   | exact ah|(refine ae fun hb=>?_;first|(simp [hv] at hb;done)|skip)
   | (refine aP (qf []) ?_;exact ab))
 | true =>
  have h24:x.cnt≤24:=by have h:=hv;simp [oO,AE] at h;exact h.1.2
  have kA:=(Fo x d [] (by simp;omega)).nil0 (by decide) fun q k=>rfl
  repeat' (first
   | refine af ?_ ?_
   | (refine aa 9 rfl ?_;first
    | (refine cB [] (Ai d x) ?_)
    | (refine cH (qf [(0,1000),(1,1001)]) (kA) ?_))
   | refine en ?_
   | exact ah|(refine ae fun hb=>?_;first|(simp [hv] at hb;done)|skip)
   | (refine aP (qf []) ?_;exact ab))
section
variable {β:Type} (V:β→Value) (z:β) (n:ByteArray) (a:β)
def lE (l:List (ByteArray×β)):List (Value×Value):=l.map fun x=>(.string x.1,V x.2)
def pO:List (ByteArray×β)→β
 | []=>z
 | x :: l=>bif aT x.1 n then x.2 else pO l
def dN:List (ByteArray×β)→List (ByteArray×β)
 | []=>[(n,a)]
 | x :: l=>bif aT x.1 n then (x.1,a) :: l else x :: dN l
def Fp:Nat→List (ByteArray×β)→Option (Nat×β)
 | _,[]=>none
 | j,x :: l=>bif aT x.1 n then some (j,x.2) else Fp (j+1) l
end
section
variable {P:Program} {β:Type} {V:β→Value} {z:β} {n:ByteArray} {a:β}
theorem Kd (m n:ByteArray):(n == m)=aT m n:=by
 rw [Bool.eq_iff_iff,aV,MapKept.bytes_beq]
 exact eq_comm
theorem wl:∀(l:List (ByteArray×β)) (i j:Nat),Instr.findNow .string (.string n) (ef i (lE V l)) j=some ((Fp n j l).map fun x=>(x.1,V x.2))
 | [],_,_=>rfl
 | x :: l,i,j=>by
  have ih:=wl l (i+1) (j+1)
  show (match some (n == x.1) with|some true=>some (some (j,V x.2))|some false=>Instr.findNow .string (.string n) (ef (i+1) (lE V l)) (j+1)|none=>none)=_
  rw [Kd,Fp]
  cases aT x.1 n with
  | true=>rfl
  | false=>exact ih
theorem Fq:∀(l:List (ByteArray×β)) (j:Nat),pO z n l=match Fp n j l with|some x=>x.2|none=>z
 | [],_=>rfl
 | x :: l,j=>by
  have ih:=Fq l (j+1)
  unfold pO Fp
  cases aT x.1 n with
  | true=>rfl
  | false=>exact ih
theorem qI:∀(l:List (ByteArray×β)) (j:Nat),Fp n j l=none→dN n a l=l++[(n,a)]
 | [],_,_=>rfl
 | x :: l,j,h=>by
  unfold Fp at h
  unfold dN
  cases hx:aT x.1 n with
  | true=>rw [hx] at h;cases h
  | false =>
   rw [hx] at h
   rw [cond_false,qI l (j+1) h]
   rfl
theorem yx:∀(l m:List (Value×Value)) (i:Nat),ef i (l++m)=ef i l++ef (i+l.length) m
 | [],_,_=>rfl
 | x :: l,m,i=>by
  show _ :: ef (i+1) (l++m)=_ :: (ef (i+1) l++_)
  rw [yx l m (i+1),List.length_cons,show i+1+l.length=i+(l.length+1) by omega]
theorem qJ:∀(l:List (ByteArray×β)) (i j k:Nat) (b:β),Fp n j l=some (k,b)→j≤k∧(ef i (lE V l))[k-j]? = some ⟨.string n,V b,i+(k-j)⟩∧(ef i (lE V l)).set (k-j) ⟨.string n,V a,i+(k-j)⟩=ef i (lE V (dN n a l))∧(dN n a l).length=l.length
 | [],_,_,_,_,h=>by cases h
 | x :: l,i,j,k,b,h=>by
  unfold Fp at h
  unfold dN
  cases hx:aT x.1 n with
  | true =>
   rw [hx] at h
   simp only [cond_true,Option.some.injEq,Prod.mk.injEq] at h
   obtain ⟨rfl,rfl⟩:=h
   obtain rfl:=aV.1 hx
   rw [Nat.sub_self]
   exact ⟨Nat.le_refl _,rfl,rfl,rfl⟩
  | false =>
   rw [hx] at h
   obtain ⟨h1,h2,h3,h4⟩:=qJ l (i+1) (j+1) k b h
   have e:k-j=(k-(j+1))+1:=by omega
   rw [cond_false,e]
   refine ⟨by omega,?_,?_,?_⟩
   ·show (ef (i+1) (lE V l))[k-(j+1)]? = _
    rw [h2,show i+1+(k-(j+1))=i+(k-(j+1)+1) by omega]
   ·show (⟨.string x.1,V x.2,i⟩:MapEntry) :: (ef (i+1) (lE V l)).set (k-(j+1)) _=_ :: ef (i+1) (lE V (dN n a l))
    rw [←h3,show i+1+(k-(j+1))=i+(k-(j+1)+1) by omega]
   ·simp [h4]
variable {w:World} {g t K E:Nat} {l:List (ByteArray×β)}
theorem Fr (ht:P.underlying t=some (.map K E)) (hK:P.underlying K=some .string) (hz:(zeroValue E).run P w = .ok (V z) w) (hb:w.heap[g]? = some (lf (lE V l))):(Instr.lookup t (.map (some g)) (.string n) false).run P w = .ok (V (pO z n l)) w:=by
 have h1:=wl (V:=V) (n:=n) l 0 0
 have hk:MapKept.IsKey .string (.string n):=by simp [MapKept.IsKey]
 rw [Fq l 0]
 cases hf:Fp n 0 l with
 | none =>
  rw [hf] at h1
  simp [Instr.lookup,run_underlying ht,MapKept.run_getObj_map hb,MapKept.run_checkKey hK hk,MapKept.run_findKey hK h1,hz,Result.andThen]
 | some x =>
  rw [hf] at h1
  simp [Instr.lookup,run_underlying ht,MapKept.run_getObj_map hb,MapKept.run_checkKey hK hk,MapKept.run_findKey hK h1,Result.andThen]
theorem Fs (ht:P.underlying t=some (.map K E)) (hK:P.underlying K=some .string) (hb:w.heap[g]? = some (lf (lE V l))):(Instr.mapUpdate t (.map (some g)) (.string n) (V a)).run P w = .ok () { w with heap:=w.heap.setIfInBounds g (lf (lE V (dN n a l))) }:=by
 have h1:=wl (V:=V) (n:=n) l 0 0
 have hk:MapKept.IsKey .string (.string n):=by simp [MapKept.IsKey]
 cases hf:Fp n 0 l with
 | none =>
  rw [hf] at h1
  have e:lf (lE V (dN n a l)) = .map ((ef 0 (lE V l)).toArray.push ⟨.string n,V a,(lE V l).length⟩) ((lE V l).length+1):=by
   rw [qI l 0 hf]
   unfold lf lE
   rw [List.map_append,yx]
   simp [ef]
  rw [e]
  simp [Instr.mapUpdate,run_underlying ht,MapKept.run_getObj_map hb,MapKept.run_checkKey hK hk,MapKept.run_findKey hK h1,MapKept.run_setObj_map _ hb,Result.andThen]
 | some x =>
  obtain ⟨k,b⟩:=x
  rw [hf] at h1
  obtain ⟨_,h2,h3,h4⟩:=qJ (V:=V) (a:=a) l 0 0 k b hf
  simp only [Nat.sub_zero,Nat.zero_add] at h2 h3
  have e:lf (lE V (dN n a l)) = .map ((ef 0 (lE V l)).toArray.modify k fun e=>{ e with key:=.string n,val:=V a }) (lE V l).length:=by
   unfold lf
   rw [←h3]
   have hl:(lE V (dN n a l)).length=(lE V l).length:=by simp [lE,h4]
   rw [hl]
   congr 1
   apply Array.ext'
   rw [Array.toList_modify]
   apply List.ext_getElem?
   intro j
   rw [List.getElem?_modify,List.getElem?_set]
   by_cases hkj:k=j
   ·subst hkj
    have hlt:=(List.getElem?_eq_some_iff.1 h2).1
    simp only [if_true,h2,Option.map_eq_map,Option.map_some]
    rw [if_pos hlt]
   ·simp [hkj]
  rw [e]
  simp [Instr.mapUpdate,run_underlying ht,MapKept.run_getObj_map hb,MapKept.run_checkKey hK hk,MapKept.run_findKey hK h1,h2,MapKept.run_keyThatStays hk,MapKept.run_setObj_map _ hb,Result.andThen]
end
section
variable {P:Program} {o:Oper} {s:Mst} {β:Type} {V:β→Value} {z:β} {n:ByteArray} {a:β} {l:List (ByteArray×β)}
theorem uA {t k:Nat} (ho:o.op = .makeMap t none) (hdk:o.dst=some k):LOp P o s [] ⟨.c (.own k),[(k,some (.mp []))],[k]⟩:=by
 intro c st ρ a w hr h1 h2 h3 h4
 have hfk:st.f k=true:=h3 k (by simp [aG])
 have hkk:∀k':Nat,aB [(k,some (Box.mp []))] k'=true→k'=k:=fun k' h=>by
  simp only [aB,Bool.or_false] at h
  exact (Nat.eq_of_beq_eq_true h).symm
 refine Oper.wp_value (v:=.map (some w.heap.size)) (w':=w.alloc (.map #[] 0)) ?_ ⟨upd ρ k (.map (some w.heap.size)),hr.app (e:=⟨.c (.own k),[(k,some (.mp []))],[k]⟩) h4 (fun k' h=>?_) (fun k' h=>?_) (fun k' h=>.inl ?_) (Frx.alloc _ _ _) (fun k' bx g' h _ hg'=>?_) (fun k1 k2 _ _ _ h h' _ _ _ _=>?_) (fun k' h=>.inl ?_) (fun k1 k2 bx h hp hx=>?_) (fun k2 bx h hp=>?_) ?_⟩
 ·unfold execOp
  rw [ho]
  simp [Instr.makeMap,Result.andThen]
 ·have:k'=k:=by simp [aG] at h;exact h.symm
  subst this
  exact ⟨hfk,by simp [aB]⟩
 ·exact d8 (by simpa [aG] using h)
 ·rw [hkk k' h];simp [aG]
 ·rw [hkk k' h,aN] at hg'
  injection hg' with hg'
  subst hg'
  exact ⟨by simp,.inl (Nat.le_refl _)⟩
 ·rw [hkk k1 h,hkk k2 h']
 ·have:k'=k:=by simp [TV.has,V0.has,D.has] at h;exact h.symm
  subst this;simp [aG]
 ·rw [hkk k2 h] at hp
  simp only [hput,Nat.beq_refl,cond_true,Option.some.injEq] at hp
  subst hp
  simp [Box.has] at hx
 ·rw [hkk k2 h] at hp ⊢
  simp only [hput,Nat.beq_refl,cond_true,Option.some.injEq] at hp
  subst hp
  rw [aN]
  exact ⟨_,rfl,(MapKept.heap_alloc w _).1⟩
 ·exact (aN _ _ _).symm
theorem Ft {t K E k:Nat} {x y:Operand} {d:TV} (ht:P.underlying t=some (.map K E)) (hK:P.underlying K=some .string) (hz:∀w,(zeroValue E).run P w = .ok (V z) w) (ho:o.op = .lookup t x y false) (hx:s.ev x = .c (.own k)) (hk:s.h k=some (.mp (lE V l))) (hy:s.ev y = .c (.sc (.string n)))
  (hd:∀w F ρ,d.rep w F ρ (V (pO z n l))) (hn:∀j,d.has j=false):LOp P o s [k] ⟨d,[],[]⟩ :=
 aZ fun c st ρ a w hr h1 h2=>by
  have e1:=h1 x (by simp [ho,Op.operands])
  have e2:=h1 y (by simp [ho,Op.operands])
  have hv1:=hr.ev x
  have hv2:=hr.ev y
  rw [e1,hx] at hv1
  rw [e2,hy] at hv2
  have hv1:a.eval x=ρ k:=hv1
  have hv2:a.eval y = .string n:=hv2
  obtain ⟨g,hg,hb⟩:=hr.hp k _ ((h2 k (by simp [aG])).trans hk)
  refine ⟨V (pO z n l),?_,hd _ _ _,fun j hj=>by rw [hn j] at hj;cases hj⟩
  unfold execOp
  rw [ho]
  simp only [hv1,hv2,hg,Sem.run_bind,Fr ht hK (hz w) hb,Result.andThen_ok,Sem.run_pure]
theorem Fu {t K E k:Nat} {x y q:Operand} (ht:P.underlying t=some (.map K E)) (hK:P.underlying K=some .string) (ho:o.op = .mapUpdate t x y q) (hx:s.ev x = .c (.own k)) (hk:s.h k=some (.mp (lE V l))) (hy:s.ev y = .c (.sc (.string n)))
  (hq:∀w F ρ v,(s.ev q).rep w F ρ v→v=V a):LOp P o s [k] ⟨.c .any,[(k,some (.mp (lE V (dN n a l))))],[]⟩:=by
 intro c st ρ ac w hr h1 h2 h3 h4
 have e1:=h1 x (by simp [ho,Op.operands])
 have e2:=h1 y (by simp [ho,Op.operands])
 have e3:=h1 q (by simp [ho,Op.operands])
 have hv1:=hr.ev x
 have hv2:=hr.ev y
 have hv3:=hr.ev q
 rw [e1,hx] at hv1
 rw [e2,hy] at hv2
 rw [e3] at hv3
 have hv1:ac.eval x=ρ k:=hv1
 have hv2:ac.eval y = .string n:=hv2
 have hv3:=hq _ _ _ _ hv3
 have hk':=(h2 k (by simp [aG])).trans hk
 obtain ⟨g,hg,hb⟩:=hr.hp k _ hk'
 have hkb:kb (ρ k)=some g:=by rw [hg];rfl
 have hkk:∀k':Nat,aB [(k,some (Box.mp (lE V (dN n a l))))] k'=true→k'=k:=fun k' h=>by
  simp only [aB,Bool.or_false] at h
  exact (Nat.eq_of_beq_eq_true h).symm
 have hset:=MapKept.heap_set (o':=lf (lE V (dN n a l))) hb
 have hlt:g<w.heap.size:=(Array.getElem?_eq_some_iff.1 hb).1
 refine Oper.wp_skip (w':={ w with heap:=w.heap.setIfInBounds g (lf (lE V (dN n a l))) }) ?_ ⟨ρ,hr.app (e:=⟨.c .any,[(k,some (.mp (lE V (dN n a l))))],[]⟩) h4 (fun k h=>by simp [aG] at h) (fun _ _=>rfl) (fun k' h=>.inr (by rw [hkk k' h];exact hr.nfh hk')) ⟨rfl,rfl,rfl,by simp,fun b hlt hn=>hset.2 b fun e=>hn ⟨k,_,by simp [aB],hk',by rw [hkb,e]⟩⟩ ?_ ?_ (fun k h=>by simp [TV.has,V0.has,D.has] at h) ?_ ?_ trivial⟩
 ·unfold execOp
  rw [ho]
  simp only [hv1,hv2,hv3,hg,Sem.run_bind,Fs ht hK hb,Result.andThen_ok,Sem.run_pure]
 ·intro k' bx g' h _ hg'
  rw [hkk k' h,hkb] at hg'
  injection hg' with hg'
  subst hg'
  exact ⟨by simpa using hlt,.inr ⟨k,_,by simp [aB],hk',hkb⟩⟩
 ·intro k1 k2 _ _ _ h h' _ _ _ _
  rw [hkk k1 h,hkk k2 h']
 ·intro k1 k2 bx h hp hx
  rw [hkk k2 h] at hp
  simp only [hput,Nat.beq_refl,cond_true,Option.some.injEq] at hp
  subst hp
  simp [Box.has] at hx
 ·intro k2 bx h hp
  rw [hkk k2 h] at hp ⊢
  simp only [hput,Nat.beq_refl,cond_true,Option.some.injEq] at hp
  subst hp
  exact ⟨g,hg,hset.1⟩
theorem uB {t K E k:Nat} {x:Operand} {L:List (Value×Value)} (ht:P.underlying t=some (.map K E)) (ho:o.op = .call { callee:=.builtin .len,args:=#[x],argTypes:=#[t] }) (hx:s.ev x = .c (.own k)) (hk:s.h k=some (.mp L)):LOp P o s [k] ⟨.i L.length,[],[]⟩ :=
 aZ fun c st ρ a w hr h1 h2=>by
  have e1:=h1 x (by simp [ho,Op.operands,Call.operands])
  have hv1:=hr.ev x
  rw [e1,hx] at hv1
  have hv1:a.eval x=ρ k:=hv1
  obtain ⟨g,hg,hb⟩:=hr.hp k _ ((h2 k (by simp [aG])).trans hk)
  refine ⟨.int .i64 L.length,?_,rfl,fun k hk=>by simp [TV.has,V0.has,D.has] at hk⟩
  have hl:∀(l:List (Value×Value)) (i:Nat),(ef i l).length=l.length:=by
   intro l
   induction l with
   | nil=>intro _;rfl
   | cons x l ih=>intro i;show (ef (i+1) l).length+1=_;rw [ih];rfl
  unfold execOp
  rw [ho]
  have hrun:(Builtin.len_ #[t] o.type #[.map (some g)]).run P w = .ok (.int .i64 L.length) w:=by
   simp [Builtin.len_,run_underlying ht,MapKept.run_getObj_map hb,Result.andThen,hl]
   rfl
  simp only [resolve,invoke,builtin,Sem.run_bind,Sem.run_pure,Result.andThen_ok,List.map_toArray,List.map_cons,List.map_nil,hv1,hg,hrun]
end
def Kx (x:Am):Value:=.agg #[.int .i64 x.mode,.int .i64 x.units]
abbrev Bu (l:List (ByteArray×Am)):List (Value×Value):=lE Kx l
abbrev tE (n:ByteArray) (l:List (ByteArray×Am)):Am:=pO ⟨0,0⟩ n l
theorem mn {P:Program} {o:Oper} {s:Mst} {t k:Nat} (K E:Nat) {x y:Operand} {n:ByteArray} {l:List (ByteArray×Am)} (ht:P.underlying t=some (.map K E)) (hK:P.underlying K=some .string) (hz:∀w,(zeroValue E).run P w = .ok (Kx ⟨0,0⟩) w) (ho:o.op = .lookup t x y false) (hx:s.ev x = .c (.own k)) (hk:s.h k=some (.mp (Bu l))) (hy:s.ev y = .c (.sc (.string n))) {b:Am} (hb:tE n l=b):LOp P o s [k] ⟨.v b.a,[],[]⟩:=by
 subst hb
 exact Ft (V:=Kx) (z:=⟨0,0⟩) ht hK hz ho hx hk hy (fun _ _ _=>⟨_,rfl,rfl,rfl,trivial⟩) fun _=>rfl
theorem pP {P:Program} {o:Oper} {s:Mst} {t k:Nat} (K E:Nat) {x y q:Operand} {n:ByteArray} {l:List (ByteArray×Am)} {b:Am} (ht:P.underlying t=some (.map K E)) (hK:P.underlying K=some .string) (ho:o.op = .mapUpdate t x y q) (hx:s.ev x = .c (.own k)) (hk:s.h k=some (.mp (Bu l))) (hy:s.ev y = .c (.sc (.string n))) (hq:s.ev q = .v b.a) {m:List (ByteArray×Am)} (hm:dN n b l=m):LOp P o s [k] ⟨.c .any,[(k,some (.mp (Bu m)))],[]⟩:=by
 subst hm
 exact Fu (V:=Kx) ht hK ho hx hk hy fun w F ρ v hv=>by
  rw [hq] at hv
  obtain ⟨cs,e,h⟩:=hv
  rw [e]
  match cs,h with
  | [_,_],⟨rfl,rfl,_⟩=>rfl
section
variable {β:Type} {z a:β} {n:ByteArray}
theorem yy (m:ByteArray):∀l:List (ByteArray×β),pO z m (dN n a l)=bif aT n m then a else pO z m l
 | []=>rfl
 | x :: l=>by
  have ih:=yy m l
  unfold dN
  cases hx:aT x.1 n with
  | true =>
   obtain rfl:=aV.1 hx
   show (bif aT x.1 m then a else pO z m l)=bif aT x.1 m then a else bif aT x.1 m then x.2 else pO z m l
   cases aT x.1 m <;> rfl
  | false =>
   show (bif aT x.1 m then x.2 else pO z m (dN n a l))=bif aT n m then a else bif aT x.1 m then x.2 else pO z m l
   rw [ih]
   cases h1:aT x.1 m with
   | false=>rfl
   | true =>
    cases h2:aT n m with
    | false=>rfl
    | true =>
     obtain rfl:=aV.1 h1
     obtain rfl:=aV.1 h2
     rw [aV.2 rfl] at hx
     cases hx
theorem wm:∀l:List (ByteArray×β),(dN n a l).length=bif dF n (l.map (·.1)) then l.length else l.length+1
 | []=>rfl
 | x :: l=>by
  have ih:=wm l
  unfold dN
  show _=bif (aT x.1 n || dF n (l.map (·.1))) then _ else _
  cases hx:aT x.1 n with
  | true=>rfl
  | false =>
   rw [Bool.false_or,cond_false,List.length_cons,ih,List.length_cons]
   cases dF n (l.map (·.1)) <;> rfl
theorem wn (m:ByteArray):∀l:List (ByteArray×β),dF m ((dN n a l).map (·.1))=(aT n m || dF m (l.map (·.1)))
 | []=>rfl
 | x :: l=>by
  have ih:=wn m l
  unfold dN
  cases hx:aT x.1 n with
  | true =>
   obtain rfl:=aV.1 hx
   show (aT x.1 m || dF m (l.map (·.1)))=(aT x.1 m || (aT x.1 m || dF m (l.map (·.1))))
   cases aT x.1 m <;> rfl
  | false =>
   show (aT x.1 m || dF m ((dN n a l).map (·.1)))=(aT n m || (aT x.1 m || dF m (l.map (·.1))))
   rw [ih]
   cases aT x.1 m <;> cases aT n m <;> rfl
end
def eH:List (ByteArray×Am)→List En→List (ByteArray×Am)
 | m,[]=>m
 | m,e :: l=>eH (dN e.name e.after m) l
def fI (l:List En):List (ByteArray×Am):=eH [] l
theorem nh:∀(l k:List En) (m:List (ByteArray×Am)),eH m (l++k)=eH (eH m l) k
 | [],_,_=>rfl
 | e :: l,k,m=>nh l k _
theorem CX (l:List En) (e:En):fI (l++[e])=dN e.name e.after (fI l):=by
 unfold fI
 rw [nh]
 rfl
theorem sY (n:ByteArray):∀(l:List En) (m:List (ByteArray×Am)),tE n (eH m l)=cz n (tE n m) l
 | [],_=>rfl
 | e :: l,m=>by
  show tE n (eH (dN e.name e.after m) l)=cz n (bif aT e.name n then e.after else tE n m) l
  rw [sY n l,show tE n (dN e.name e.after m)=_ from yy n m]
theorem pQ (l:List En) (n:ByteArray):tE n (fI l)=ay l n:=sY n l []
theorem Fv (n m:ByteArray) (l:List ByteArray):dF m (gR n l)=(aT n m || dF m l):=by
 rw [Bool.eq_iff_iff,gA,nY,Bool.or_eq_true,aV,gA]
 exact or_congr_left eq_comm
theorem qK:∀(l:List En) (m:List (ByteArray×Am)) (acc:List ByteArray),m.length=acc.length→(∀x,dF x (m.map (·.1))=dF x acc)→(eH m l).length=(dh acc l).length
 | [],_,_,h,_=>h
 | e :: l,m,acc,h,hh=>by
  show (eH (dN e.name e.after m) l).length=(dh (bif dF e.name acc then acc else gR e.name acc) l).length
  refine qK l _ _ ?_ fun x=>?_
  ·rw [wm,hh,h]
   cases dF e.name acc with
   | true=>rfl
   | false=>rw [cond_false,cond_false,jj]
  ·rw [wn,hh]
   cases ha:dF e.name acc with
   | false=>rw [cond_false,Fv]
   | true =>
    rw [cond_true]
    cases he:aT e.name x with
    | false=>rfl
    | true=>rw [←aV.1 he,ha];rfl
theorem sZ (l:List En):(fI l).length=(bp l).length:=qK l [] [] rfl fun _=>rfl
theorem uC:∀(l:List En) (m:List (ByteArray×Am)),m.length≤(eH m l).length
 | [],_=>Nat.le_refl _
 | e :: l,m=>by
  refine Nat.le_trans ?_ (uC l (dN e.name e.after m))
  rw [wm]
  cases dF e.name (m.map (·.1)) <;> simp
theorem CY (l k:List En):(fI l).length≤(fI (l++k)).length:=by
 unfold fI
 rw [nh]
 exact uC k _
theorem qL (n:Int):∀(l:List Sv) (k i:Nat) (h:i<l.length),l[i].label=n→(aE n k l=((k+i:Nat):Int)↔aE n k (l.take i)<0)
 | s :: l,k,0,_,hn=>by
  have hn:s.label=n:=hn
  show (bif decide (s.label=n) then (k:Int) else _)=_↔_
  rw [decide_eq_true hn]
  simp [aE]
 | s :: l,k,i+1,h,hn=>by
  have ih:=qL n l (k+1) i (by simpa using h) (by simpa using hn)
  show (bif decide (s.label=n) then (k:Int) else aE n (k+1) l)=_↔(bif decide (s.label=n) then (k:Int) else aE n (k+1) (l.take i))<0
  by_cases hs:s.label=n
  ·rw [decide_eq_true hs,cond_true,cond_true]
   constructor <;> intro h <;> omega
  ·rw [decide_eq_false hs,cond_false,cond_false,←ih,show k+1+i=k+(i+1) by omega]
def Ke (all:List Sv) (n:Int):Nat→Int→List Sv→Bool
 | _,_,[]=>true
 | k,at_,s :: l=>decide (1≤s.label) && decide (s.label≤99) && decide (aE s.label 0 (all.take k)<0) && decide (at_≤s.at_) && decide (s.at_≤n) && Ke all n (k+1) s.at_ l
theorem Fw (all:List Sv) (n:Int):∀(l:List Sv) (k:Nat) (at_:Int),all.drop k=l→0≤at_→Ke all n k at_ l=mt all n k at_ l
 | [],_,_,_,_=>rfl
 | s :: l,k,at_,h,h0=>by
  have hk:k<all.length:=by
   have:=congrArg List.length h
   simp at this
   omega
  have hs:all[k]=s∧all.drop (k+1)=l:=by
   rw [List.drop_eq_getElem_cons hk] at h
   injection h with h1 h2
   exact ⟨h1,h2⟩
  have hf:=qL s.label all 0 k hk (by rw [hs.1])
  rw [Nat.zero_add] at hf
  show (decide (1≤s.label) && decide (s.label≤99) && decide (aE s.label 0 (all.take k)<0) && decide (at_≤s.at_) && decide (s.at_≤n) && Ke all n (k+1) s.at_ l)=(decide (1≤s.label) && decide (s.label≤99) && decide (0≤s.at_) && decide (s.at_≤n) && decide (at_≤s.at_) && decide (aE s.label 0 all=(k:Int)) && mt all n (k+1) s.at_ l)
  by_cases ha:at_≤s.at_
  ·rw [Fw all n l (k+1) s.at_ hs.2 (by omega),decide_eq_decide.2 hf.symm,decide_eq_true ha,decide_eq_true (show 0≤s.at_ by omega)]
   cases decide (1≤s.label) <;> cases decide (s.label≤99) <;> cases decide (s.at_≤n) <;> cases decide (aE s.label 0 all=(k:Int)) <;> simp
  ·rw [decide_eq_false ha]
   simp
theorem tF:prog.underlying 127=some (.map 9 29):=by kernel_rfl
theorem Aj:prog.underlying 9=some .string:=by kernel_rfl
theorem wt (w:World):(zeroValue 29).run prog w = .ok (Kx ⟨0,0⟩) w:=by kernel_rfl
theorem Ih (m:Int):FSpec prog 80 [.one (.sc (.int .i64 m))] [] [] (.b (cn m)) [] :=
 aA (fun b W=>by kernel_rfl) rfl fun w S ρ vs _ h=>by
  match vs,h with
  | [_],⟨rfl,_⟩=>exact (iT m w).mono fun e w' h=>⟨_,h.1,by rw [h.2];exact Below.refl _ _,rfl⟩
theorem Fx (a b:Int):FSpec prog 101 [.one (.sc (.int .i64 a)),.one (.sc (.int .i64 b))] [] [] (.b (cu a b)) [] :=
 aA (fun b W=>by kernel_rfl) rfl fun w S ρ vs _ h=>by
  match vs,h with
  | [_,_],⟨rfl,rfl,_⟩=>exact (rg a b w).mono fun _ _=>dk
theorem Fy (a:Am):FSpec prog 35 [a.a] [] [] (.b (aR a)) []:=by
 refine bJ func35 ?_
 have kM:=Ih a.mode
 obtain ⟨m,hm⟩:∃m,cn a.mode=m:=⟨_,rfl⟩
 rw [hm] at kM
 have hu:aR a=(m && decide (a.units=0) || decide (a.mode=0) && decide (1≤a.units) && decide (a.units≤8)):=by rw [←hm];rfl
 have h0:a.mode=0→m=false:=fun h=>by rw [←hm,h];rfl
 repeat' (first
  | refine af ?_ ?_
  | refine aa 9 rfl (cB [] (kM) ?_)
  | refine en ?_
  | exact ah|refine ae fun hb=>?_)
 all_goals (refine pp ?_;rw [hu];simp [*] <;> rfl)
theorem Kf (a b:Am):FSpec prog 63 [a.a,b.a] [] [] (.b (cm a b)) []:=by
 refine bJ func63 ?_
 have kA:=Fy a
 have kB:=Fy b
 have kC:=Fx b.mode a.mode
 obtain ⟨u,hu⟩:∃u,aR a=u:=⟨_,rfl⟩
 obtain ⟨v,hv⟩:∃v,aR b=v:=⟨_,rfl⟩
 obtain ⟨c,hc⟩:∃c,cu b.mode a.mode=c:=⟨_,rfl⟩
 rw [hu] at kA
 rw [hv] at kB
 rw [hc] at kC
 have hg:cm a b=(v && !decide (a=b) && (aF a || u && (bif !decide (a.mode=0) then c else decide (a.units<b.units)))):=by rw [←hu,←hv,←hc];rfl
 have f1:b.mode=0→c=false:=fun h=>by rw [←hc,h];rfl
 have f2:u=true→v=true→a.mode=0→b.mode≠0→¬a.units<b.units:=fun h1 h2 h3 h4=>by
  rw [←hu] at h1
  rw [←hv] at h2
  have e1:=cA h1
  have e2:=cA h2
  simp only [fg] at e1 e2
  omega
 have hz:aF a=decide (a=⟨0,0⟩):=rfl
 rw [hz] at hg
 clear hu hv hc hz
 repeat' (first
  | refine af ?_ ?_
  | (refine aa 9 rfl ?_;first
   | (refine cB [] (kA) ?_)
   | (refine cB [] (kB) ?_)
   | (refine cB [] (kC) ?_))
  | refine en ?_
  | exact ah|refine ae fun hb=>?_)
 all_goals (refine pp ?_;rw [hg])
 all_goals first
  | (simp [*];done)
  | (cases u <;> cases v <;> cases c <;> simp_all;done)
theorem Ak (l:List Sv) (n:Int) {K:Int} (hK:aE n 0 l=K):FSpec prog 102 [.one (.sl iF l),.one (.sc (.int .i64 n))] [] [] (.i K) []:=by
 refine bJ func102 ?_
 refine bY (fun c ρ a w hr=>gc (t:=0) hr rfl) (fun hl0=>?_)
 repeat' (first
  | refine af ?_ ?_
  | refine en ?_
  | exact ah|refine ae fun hb=>?_)
 refine ao (fun i=>i≤l.length∧aE n i (l.drop i)=K) (fun i=>cy [] [(1,.c (.sc (.int .i64 n))),(7,.c (.sl iF l)),(8,.i l.length),(9,.i i)] []) (fun i=>l.length-i) 0 ⟨Nat.zero_le _,hK⟩ (by exact ap (qf [])) ?_
 clear hK
 rintro i ⟨hi,hs⟩
 by_cases hlt:i<l.length
 ·obtain ⟨x,hx⟩:∃x,l[i]? = some x:=⟨_,List.getElem?_eq_getElem hlt⟩
  have ex:l[i]=x:=(List.getElem?_eq_some_iff.1 hx).2
  rw [List.drop_eq_getElem_cons hlt,ex] at hs
  have hs:(bif decide (x.label=n) then (i:Int) else aE n (i+1) (l.drop (i+1)))=K:=hs
  by_cases he:x.label=n
  ·rw [decide_eq_true he] at hs
   obtain rfl:K=i:=hs.symm
   repeat' (first
    | refine af ?_ ?_
    | refine en ?_
    | exact ah|(refine ae fun hb=>?_;first|(exact absurd he hb)|skip)
    | (refine aP (qf []) ?_;exact ab))
  ·rw [decide_eq_false he,cond_false] at hs
   repeat' (first
    | refine af ?_ ?_
    | refine en ?_
    | exact ah|(refine ae fun hb=>?_;first|(exact absurd hb he)|skip))
   refine ⟨i+1,⟨by omega,hs⟩,by omega,?_⟩
   exact ap (qf [])
 ·rw [List.drop_eq_nil_of_le (by omega)] at hs
  obtain rfl:K = -1:=hs.symm
  repeat' (first
   | refine af ?_ ?_
   | refine en ?_
   | exact ah|refine ae fun hb=>?_
   | (refine aP (qf []) ?_;exact ab))
theorem Kg (s:List Sv) (n:Int) {b:Bool} (hB:(decide (s.length≤4) && Ke s n 0 0 s)=b):FSpec prog 64 [.one (.sl iF s),.one (.sc (.int .i64 n))] [] [] (.b b) []:=by
 refine bJ func64 ?_
 by_cases h4:s.length≤4
 case neg =>
  obtain rfl:b=false:=by rw [←hB,decide_eq_false h4];rfl
  repeat' (first
   | refine af ?_ ?_
   | refine en ?_
   | exact ah|refine ae fun hb=>?_
   | (refine aP (qf []) ?_;exact ab))
 rw [decide_eq_true h4,Bool.true_and] at hB
 repeat' (first
  | refine af ?_ ?_
  | refine en ?_
  | exact ah|refine ae fun hb=>?_)
 refine ao (fun y:Nat×Int=>y.1≤s.length∧Ke s n y.1 y.2 (s.drop y.1)=b) (fun y=>cy [] [(0,.c (.sl iF s)),(1,.c (.sc (.int .i64 n))),(5,.c (.sc (.int .i64 y.2))),(11,.c (.sl iF s)),(12,.i s.length),(13,.i y.1)] []) (fun y=>s.length-y.1) (0,0) ⟨Nat.zero_le _,hB⟩ (by exact ap (qf [])) ?_
 clear hB
 rintro ⟨i,p⟩ ⟨hi,hs⟩
 dsimp only at *
 by_cases hlt:i<s.length
 ·obtain ⟨x,hx⟩:∃x,s[i]? = some x:=⟨_,List.getElem?_eq_getElem hlt⟩
  have ex:s[i]=x:=(List.getElem?_eq_some_iff.1 hx).2
  rw [List.drop_eq_getElem_cons hlt,ex] at hs
  have hs:(decide (1≤x.label) && decide (x.label≤99) && decide (aE x.label 0 (s.take i)<0) && decide (p≤x.at_) && decide (x.at_≤n) && Ke s n (i+1) x.at_ (s.drop (i+1)))=b:=hs
  obtain ⟨T,hT⟩:∃T,s.take i=T:=⟨_,rfl⟩
  have hT2:s.take ((i:Int)).toNat=T:=by rw [Int.toNat_natCast];exact hT
  obtain ⟨K,hK⟩:∃K,aE x.label 0 T=K:=⟨_,rfl⟩
  have kP:=Ak T x.label hK
  rw [hT,hK] at hs
  clear hT hK
  by_cases hok:(1≤x.label∧x.label≤99)∧K<0∧p≤x.at_∧x.at_≤n
  ·obtain ⟨⟨k1,k2⟩,k3,k4,k5⟩:=hok
   rw [decide_eq_true k1,decide_eq_true k2,decide_eq_true k3,decide_eq_true k4,decide_eq_true k5] at hs
   simp only [Bool.true_and] at hs
   repeat' (first
    | refine af ?_ ?_
    | refine aa 9 rfl (cB [] (kP) ?_)
    | (refine aa 14 rfl ?_;refine sx (se rfl rfl rfl rfl (by omega) (by omega) hT2) ?_)
    | refine en ?_
    | exact ah|refine ae fun hb=>?_)
   refine ⟨(i+1,x.at_),⟨by dsimp only;omega,hs⟩,by dsimp only;omega,?_⟩
   exact ap (qf [])
  ·have hok1:1≤x.label→x.label≤99→K<0→p≤x.at_→x.at_≤n→False:=fun a b c d e=>hok ⟨⟨a,b⟩,c,d,e⟩
   obtain rfl:b=false:=by
    rw [←hs]
    cases hh:(decide (1≤x.label) && decide (x.label≤99) && decide (K<0) && decide (p≤x.at_) && decide (x.at_≤n)) with
    | false=>rfl
    | true =>
     simp only [Bool.and_eq_true,decide_eq_true_eq] at hh
     exact (hok1 hh.1.1.1.1 hh.1.1.1.2 hh.1.1.2 hh.1.2 hh.2).elim
   clear hok hs
   repeat' (first
    | refine af ?_ ?_
    | refine aa 9 rfl (cB [] (kP) ?_)
    | (refine aa 14 rfl ?_;refine sx (se rfl rfl rfl rfl (by omega) (by omega) hT2) ?_)
    | refine en ?_
    | exact ah|(refine ae fun hb=>?_;first|(exact (hok1 (by omega) (by omega) (by omega) (by omega) (by omega)).elim)|skip)
    | (refine aP (qf []) ?_;exact ab))
 ·rw [List.drop_eq_nil_of_le (by omega)] at hs
  obtain rfl:b=true:=hs.symm
  repeat' (first
   | refine af ?_ ?_
   | refine en ?_
   | exact ah|refine ae fun hb=>?_
   | (refine aP (qf []) ?_;exact ab))
theorem FA (l:List En):FSpec prog 106 [.one (.sl iI l)] [] [0] (.c (.own 0)) [(0,some (.mp (Bu (fI l))))]:=by
 refine bJ func106 ?_
 refine bY (fun c ρ a w hr=>gc (t:=0) hr rfl) (fun hl0=>?_)
 repeat' (first
  | refine af ?_ ?_
  | (refine aa 22 rfl ?_;refine sx (uA rfl rfl) ?_)
  | refine en ?_
  | exact ah|refine ae fun hb=>?_)
 refine ao (fun y:Nat×List (ByteArray×Am)=>y.1≤l.length∧eH y.2 (l.drop y.1)=fI l) (fun y=>cy [6] [(3,.c (.own 6)),(7,.c (.sl iI l)),(8,.i l.length),(9,.i y.1)] [(6,.mp (Bu y.2))]) (fun y=>l.length-y.1) (0,[]) ⟨Nat.zero_le _,rfl⟩ (by exact ap (qf [])) ?_
 rintro ⟨i,m⟩ ⟨hi,hs⟩
 dsimp only at *
 by_cases hlt:i<l.length
 ·obtain ⟨e,he⟩:∃e,l[i]? = some e:=⟨_,List.getElem?_eq_getElem hlt⟩
  have ee:l[i]=e:=(List.getElem?_eq_some_iff.1 he).2
  rw [List.drop_eq_getElem_cons hlt,ee] at hs
  repeat' (first
   | refine af ?_ ?_
   | (refine aa 24 rfl ?_;refine Mh (pP _ _ tF Aj rfl rfl rfl rfl rfl rfl) ?_)
   | refine en ?_
   | exact ah|refine ae fun hb=>?_)
  refine ⟨(i+1,dN e.name e.after m),⟨by dsimp only;omega,hs⟩,by dsimp only;omega,?_⟩
  exact ap (qf [])
 ·rw [List.drop_eq_nil_of_le (by omega)] at hs
  obtain rfl:m=fI l:=hs
  repeat' (first
   | refine af ?_ ?_
   | refine en ?_
   | exact ah|refine ae fun hb=>?_
   | (refine aP (qf [(0,6)]) ?_;exact ab))
theorem LM (g:Lg) (n:ByteArray) {a:Am} (ha:ay g.entries n=a):FSpec prog 71 [g.a,.one (.sc (.string n))] [] [] (.v a.a) []:=by
 refine bJ func71 ?_
 have kS:=FA g.entries
 have hg:tE n (fI g.entries)=a:=(pQ _ _).trans ha
 generalize fI g.entries=m at *
 repeat' (first
  | refine af ?_ ?_
  | refine aa 9 rfl (cH (qf [(0,1000)]) (kS) ?_)
  | (refine aa 23 rfl ?_;refine sx (mn _ _ tF Aj wt rfl rfl rfl rfl hg) ?_)
  | refine en ?_
  | exact ah|refine ae fun hb=>?_
  | (refine aP (qf []) ?_;exact ab))
theorem Bv (l:List En) (s:List Sv) {b:Bool} (hB:kh l s=b):FSpec prog 25 [.ag [.sl iI l,.sl iF s]] [] [] (.b b) []:=by
 refine bJ func25 ?_
 refine bY (fun c ρ a w hr=>lR (t:=0) (i:=0) hr rfl rfl) (fun hl0_0=>?_)
 refine bY (fun c ρ a w hr=>lR (t:=0) (i:=1) hr rfl rfl) (fun hl0_1=>?_)
 repeat' (first
  | refine af ?_ ?_
  | (refine aa 22 rfl ?_;refine sx (uA rfl rfl) ?_)
  | refine en ?_
  | exact ah|refine ae fun hb=>?_)
 refine ao (fun y:Nat×List (ByteArray×Am)=>y.1≤l.length∧y.2=fI (l.take y.1)∧y.2.length≤8∧fO (l.take y.1) (l.drop y.1)=fO [] l) (fun y=>cy [1,6] [(1,.c (.ptr 1 0)),(3,.c (.own 6)),(8,.c (.sl iI l)),(9,.i l.length),(10,.i y.1)] [(1,.box 27 [.sl iI l,.sl iF s]),(6,.mp (Bu y.2))]) (fun y=>l.length-y.1) (0,[]) ⟨Nat.zero_le _,rfl,by simp,by simp⟩ (by exact ap (qf [])) ?_
 rintro ⟨i,m⟩ ⟨hi,hm,hm8,hs⟩
 dsimp only at *
 by_cases hlt:i<l.length
 ·obtain ⟨e,he⟩:∃e,l[i]? = some e:=⟨_,List.getElem?_eq_getElem hlt⟩
  have ee:l[i]=e:=(List.getElem?_eq_some_iff.1 he).2
  have hst:fO [] l=(bE e.name.toList && decide (e.before=ay (l.take i) e.name) && cm e.before e.after && fO (l.take (i+1)) (l.drop (i+1))):=by
   rw [←hs,List.drop_eq_getElem_cons hlt,ee,List.take_succ_eq_append_getElem hlt,ee]
   rfl
  obtain ⟨h,hh⟩:∃h,ay (l.take i) e.name=h:=⟨_,rfl⟩
  have hg:tE e.name m=h:=by rw [hm,pQ];exact hh
  obtain ⟨m2,hm2⟩:∃m2,dN e.name e.after m=m2:=⟨_,rfl⟩
  have hm3:m2=fI (l.take (i+1)):=by rw [←hm2,hm,List.take_succ_eq_append_getElem hlt,ee,CX]
  have kN:=Af e.name
  have kG:=Kf e.before e.after
  rw [hh] at hst
  clear hh hm
  by_cases hok:(bE e.name.toList=true∧e.before=h∧cm e.before e.after=true)∧m2.length≤8
  ·obtain ⟨⟨k1,k2,k3⟩,k4⟩:=hok
   rw [k1] at kN
   rw [k3] at kG
   have hlm:(Bu m2).length=m2.length:=by simp [lE]
   repeat' (first
    | refine af ?_ ?_
    | (refine aa 7 rfl ?_;refine sx (uB tF rfl rfl rfl) ?_)
    | (refine aa 9 rfl ?_;first
     | (refine cB [] (kN) ?_)
     | (refine cB [] (kG) ?_))
    | (refine aa 23 rfl ?_;refine sx (mn _ _ tF Aj wt rfl rfl rfl rfl hg) ?_)
    | (refine aa 24 rfl ?_;refine Mh (pP _ _ tF Aj rfl rfl rfl rfl rfl hm2) ?_)
    | refine en ?_
    | exact ah|(refine ae fun hb=>?_;first|(exact absurd k2 hb)|skip))
   refine ⟨(i+1,m2),⟨by dsimp only;omega,hm3,k4,?_⟩,by dsimp only;omega,?_⟩
   ·dsimp only
    rw [hst,k1,k3];simp [k2]
   ·exact ap (qf [])
  ·obtain rfl:b=false:=by
    rw [←hB]
    cases h1:fO [] l with
    | false=>simp [kh,h1]
    | true =>
     rw [hst] at h1
     simp only [Bool.and_eq_true,decide_eq_true_eq] at h1
     have h8:¬m2.length≤8:=fun h8=>hok ⟨⟨h1.1.1.1,h1.1.1.2,h1.1.2⟩,h8⟩
     have h9:¬(bp l).length≤8:=fun h9=>h8 (by
      rw [hm3]
      have:=CY (l.take (i+1)) (l.drop (i+1))
      rw [List.take_append_drop,sZ l] at this
      omega)
     simp [kh,h9]
   have hok1:bE e.name.toList=true→e.before=h→cm e.before e.after=true→m2.length≤8→False:=fun a b c d=>hok ⟨⟨a,b,c⟩,d⟩
   obtain ⟨nb,hnb⟩:∃nb,bE e.name.toList=nb:=⟨_,rfl⟩
   obtain ⟨gb,hgb⟩:∃gb,cm e.before e.after=gb:=⟨_,rfl⟩
   rw [hnb] at kN hok1
   rw [hgb] at kG hok1
   clear hok hst hnb hgb hm3
   have hlm:(Bu m2).length=m2.length:=by simp [lE]
   repeat' (first
    | refine af ?_ ?_
    | (refine aa 7 rfl ?_;refine sx (uB tF rfl rfl rfl) ?_)
    | (refine aa 9 rfl ?_;first
     | (refine cB [] (kN) ?_)
     | (refine cB [] (kG) ?_))
    | (refine aa 23 rfl ?_;refine sx (mn _ _ tF Aj wt rfl rfl rfl rfl hg) ?_)
    | (refine aa 24 rfl ?_;refine Mh (pP _ _ tF Aj rfl rfl rfl rfl rfl hm2) ?_)
    | refine en ?_
    | exact ah|(refine ae fun hb=>?_;first|(exact (hok1 (by assumption) (by assumption) (by assumption) (by omega)).elim)|skip)
    | (refine aP (qf []) ?_;exact ab))
 ·have hE:fO [] l=true:=by rw [←hs,List.drop_eq_nil_of_le (by omega)];rfl
  rw [List.take_of_length_le (by omega)] at hm
  have h8:(bp l).length≤8:=by rw [←sZ,←hm];exact hm8
  have h64:=xE (xD.1 hE) h8
  have hB2:(decide (s.length≤4) && Ke s l.length 0 0 s)=b:=by
   rw [←hB,Fw s l.length s 0 0 rfl (Int.le_refl _)]
   simp [kh,hE,h8,show l.length≤72 by omega]
  have kV:=Kg s l.length hB2
  clear hB hB2 hE hs hm
  repeat' (first
   | refine af ?_ ?_
   | refine aa 9 rfl (cB [] (kV) ?_)
   | refine en ?_
   | exact ah|refine ae fun hb=>?_
   | (refine aP (qf []) ?_;exact ab))
end Go.Proofs.YtdaajdflefnjfaaGreat
