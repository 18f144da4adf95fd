/- Part 18 of 56 of the proof of both_hold (no condition). -/
import Derived.Test.YtcgpepnbohejfaaGreatDoorRows
import Derived.Test.YtcgpepnbohejfaaGreatDoorCards
import Derived.Test.YtcgpepnbohejfaaGreatDoorTie
import Derived.Test.YtcgpepnbohejfaaGreatDoorK16
import Derived.Test.YtcgpepnbohejfaaGreatDoorK15
import Derived.HandedShaped
import Derived.ProofKit
import Derived.Lib.SmallJoins
import Derived.Lib.LaidTab
import Derived.Shelf.Vars
import Derived.LaidMore
import Derived.Lay
import Derived.LaidSub
import Derived.MakeChecks
import Derived.Stop.Joined
import Derived.SevenTiedAt
import Derived.Carry
import Derived.SizedLaws
import Derived.Maps.OwnSet
import Derived.Maps.RangeRun
set_option linter.unusedVariables false
set_option linter.unusedSimpArgs false
set_option maxRecDepth 100000
set_option maxHeartbeats 64000000
namespace Go.Proofs.YtcgpepnbohejfaaGreatDoor
open Go.RowKit Go.Proofs.Tryz
section
variable {H:Type} {enc:TypeId×Value→H}
theorem oy {a:Assume} {C:Checked} {os:Os} {f:FuncId} {fn:Func} {s:ChangeSpec} {conds:List PathCond} {apart fresh handsOn again:Bool} {X:World→Array Value→Prop}
  (hX:∀(w w':World) (args:Array Value),w.heap=w'.heap→X w args→X w' args)
  (own:ownKnob C.prog.godebug=none) (started:os.Started) (noInit:C.prog.inits.idxOf? f=none) (hfn:C.prog.funcs[f]? = some fn)
  (witness:∃(w:World) (tape:Tape) (i:Input),w.os=os∧(w.forCall tape i).Shaped C.prog∧i.vars=[]∧Input.okWide C.prog (w.forCall tape i) .any w.heap.size f i∧
   ((s.pre enc C.prog fn conds apart (w.forCall tape i).memory i.args∧X (w.forCall tape i).memory i.args)∧sizedMet enc C.prog fn (OpenSpec.ofChange s) apart (w.forCall tape i).memory i.args)∧a.holds C.prog (lone (Frame.enter C.prog f i.args .normal) [] (w.forCall tape i)))
  (contract:∀(W:World) (base:Nat) (args:Array Value) (ds gs:List (DataW H)) (before:List MemPlace),
   (∀(j:Nat) t v,fn.params[j]? = some t→args[j]? = some v→Value.okWide C.prog W .any base t v)→
   DataW.Whole enc C.prog fn.params.toList s.vars apart W args.toList ds gs before→
   conds.all (PathCond.test C.prog ⟨fn.params.toList,ds,s.plain.varTypes C.prog,gs⟩)=true→
   (DataW.weightsEach C.prog (fn.params.toList++s.plain.varTypes C.prog) (ds++gs)).all (·≤reachBytes)=true→X W args→
   W.ShapedOpen C.prog→
   Calls C.prog f args W fun e W'=>∃v,e = .returned v∧s.post enc C.prog fn apart fresh handsOn again W args v W') :
  ReturnsInHanded a C os f .any (fun w args=>(s.pre enc C.prog fn conds apart w args∧X w args)∧sizedMet enc C.prog fn (OpenSpec.ofChange s) apart w args) (s.post enc C.prog fn apart fresh handsOn again):=by
 refine returnsInHanded_of_calls own started noInit witness ?_;intro w tape i _ hsh _ hok hpre _;obtain ⟨_,_,_,fn',hfn',_,_,_,_,hval⟩:=hok;have e:fn'=fn:=Option.some.inj (hfn'.symm.trans hfn);subst e;obtain ⟨⟨⟨ds,gs,before,hw,hc⟩,hx⟩,hz⟩:=hpre;have hw':=DataW.Whole.of_heap (w':=w.forCall tape i) (by rfl) hw;refine (contract (w.forCall tape i) w.heap.size i.args ds gs before hval hw' hc (hz.weights hw) (hX _ _ _ (by rfl) hx) hsh).mono fun e W' ⟨v,he,hp⟩=>?_;subst he;exact ChangeSpec.post_blind hp
end
section
open Go.WideShapes Go.ChangeShapes Go.Deep
section
variable {H:Type} {enc:TypeId×Value→H} {P:Program}
theorem jY {f:Func} {s:ChangeSpec} {apart fresh handsOn again:Bool} {W W':World} {args:Array Value} {v:Value} {ds gs:List (DataW H)} {before pa pv:List MemPlace}
  (hW:DataW.Whole enc P f.params.toList s.vars apart W args.toList ds gs before)
  (hres:∀(b:Nat) (sp:Nat→Bool) (hd:Bool),DataW.TrodAll enc P W' b sp hd f.resultTypes.toList (v.resultList f.resultTypes.size) (s.fn H (ds++gs)).results [])
  (hargs:∀sp:Nat→Bool,(∀p∈before,sp p.block=true)→DataW.TrodAll enc P W' 0 sp true f.params.toList args.toList (s.fn H (ds++gs)).args pa)
  (hvars:∀sp:Nat→Bool,(∀p∈before,sp p.block=true)→DataW.TrodVars enc P W' sp s.vars (s.fn H (ds++gs)).vars pv)
  (hps:before=pa++pv) (hb:Below W.heap.size W W')
  (hok:∀(j:Nat) (t:TypeId) (r:Value),f.resultTypes[j]? = some t→(v.resultList f.resultTypes.size)[j]? = some r→Value.okWide P W' .any 0 t r) :
  s.post enc P f apart fresh handsOn again W args v W':=by
 have hlt:∀p∈before,p.block<W.heap.size:=fun p hp=>hW.lt p hp;have hold:∀p∈before,(fun b=>decide (b<W.heap.size)) p.block=true:=fun p hp=>by simpa using hlt p hp
 refine ⟨ds,gs,before,[],pa,pv,hW,hres _ _ _,hargs _ hold,hvars _ hold,World.keptBut_mono (fun p hp=>⟨hp,?_⟩) (hb.frame (·∈before)),fun _=>?_⟩
 ·rw [hps,List.mem_append] at hp;exact Or.inr hp
 ·obtain ⟨_,_,_,_,_,hz,hn⟩:=hW;refine ⟨hok,_,_,([]++pa)++pv,⟨[]++pa,pv,trodAll_append (hargs _ (fun _ _=>rfl)) (hres _ _ _),hvars _ (fun _ _=>rfl),rfl,?_,?_⟩,?_⟩
  ·intro b off hp;have hin:MemPlace.cell b off∈before:=by rw [hps];simpa using hp
   rw [hb.frozen (hlt _ hin)];exact hz b off hin
  ·intro ha;have:=hn ha;rw [hps] at this;simpa using this
  ·intro p hp _;rw [hps];simpa using hp
end
theorem Tryz.own:ownKnob prog.godebug=none:=by kernel_rfl
theorem laidOut:laidOutB prog=true:=by kernel_rfl
end
section
open Go.ChangeShapes Go.WideShapes Go.ChangeAt Go.OpenShut
def gH:List (String×DataW Unit):=Rows.centralSafeRow.laid
set_option maxRecDepth 100000
theorem se (os:Os) (args:Array Value):laidMetH prog gH ((World.laidAll prog os gH).forCall (fun _ _=>0) ⟨#[],args,[]⟩).memory:=by
 rw [Go.MakeChecks.laidMetH_plain _ _ _ (by kernel_rfl)];exact laidMet_laidAll _ (by kernel_rfl) (by kernel_rfl)
theorem iY {P:Program} {w:World}:∀{l:List (String×DataW Unit)} {ps:List MemPlace},DataW.LaidVars P w l ps→∀n d,(n,d)∈l→
  ∃g t cs fuel p,P.globalNamed n=some g∧(P.globals[g]?).map (·.type)=some t∧w.var? P n=some cs∧DataW.trod (fun _=>()) P w 0 (fun _=>true) false fuel t cs.toList=some (d,p)
 | [],_,_,_,_,hm=>by cases hm
 | (n',d') :: r,ps,h,n,d,hm=>by
  obtain ⟨g,t,cs,fuel,p,q,h1,h2,h3,h4,h5,_⟩:=h;rcases List.mem_cons.1 hm with e|e
  ·cases e
   exact ⟨g,t,cs,fuel,p,h1,h2,h3,h4⟩
  ·exact iY h5 n d e
theorem zG {P:Program} {w:World} {n:String} {g:Nat} {cs:Array Value} (hg:P.globalNamed n=some g) (h:w.var? P n=some cs) (i:Nat):w.cell? ⟨g,i,none⟩=cs[i]?:=by
 unfold World.var? at h;rw [hg] at h;simp only [Option.bind_some] at h;unfold World.cell?;rcases ho:w.heap[g]? with _|o
 ·rw [ho] at h;cases h
 ·rw [ho] at h;simp only at h ⊢;cases o <;> simp_all
section
variable {H:Type} {enc:TypeId×Value→H} {P:Program} {w:World} {base:Nat} {sp:Nat→Bool} {held:Bool} {fuel:Nat} {t e:TypeId} {n:Nat} {cs:List Value}
theorem Bd {bs:List Bool} {p:List MemPlace} (ht:P.underlying t=some (.array n e)) (he:P.underlying e=some .bool) (hc:P.cellsOf e=1) (h:DataW.trod enc P w base sp held fuel t cs=some (.agg (bs.map fun b=>.lit (.bool b)),p)):∀j (hj:j<bs.length),cs[j]? = some (.bool bs[j]):=by
 obtain ⟨xs,m,_,hx,hl,hn,hi⟩:=DataW.trod_array ht h;injection hx with hx _;injection hx with hx;intro j hj;have hlen:bs.length=xs.length:=by have:=congrArg List.length hx;simpa using this
 have h1:=hi j (by omega);rw [hc,Nat.mul_one,List.getElem?_eq_getElem (by omega)] at h1;obtain ⟨b,h2,h3⟩:=DataW.trod_bool he h1;have h4:(xs.map (·.1))[j]? = some (.lit (.bool b)):=by rw [List.getElem?_map,List.getElem?_eq_getElem (by omega),h3];rfl
 rw [←hx,List.getElem?_map,List.getElem?_eq_getElem hj] at h4;injection h4 with h4;injection h4 with h4;injection h4 with h4;have h5:(cs.drop j)[0]? = some (.bool b):=by
  have:=congrArg (·[0]?) h2;simpa [List.getElem?_take] using this
 rw [List.getElem?_drop,Nat.add_zero] at h5;rw [h5,h4]
theorem Be {bs:List (List Bool)} {p:List MemPlace} {t2:TypeId} {k:Nat} (ht:P.underlying t2=some (.array k t)) (ht2:P.underlying t=some (.array n e)) (he:P.underlying e=some .bool) (hc:P.cellsOf e=1) (hn5:P.cellsOf t=n) (hbs:∀r∈bs,r.length=n)
  (h:DataW.trod enc P w base sp held fuel t2 cs=some (.agg (bs.map fun r=>.agg (r.map fun b=>.lit (.bool b))),p)):∀i j (hi:i<bs.length) (hj:j<bs[i].length),cs[i*n+j]? = some (.bool bs[i][j]):=by
 obtain ⟨xs,m,_,hx,hl,hn,hi⟩:=DataW.trod_array ht h;injection hx with hx _;injection hx with hx;intro i j hil hj;have hlen:bs.length=xs.length:=by have:=congrArg List.length hx;simpa using this
 have h1:=hi i (by omega);rw [hn5,List.getElem?_eq_getElem (by omega)] at h1;have h4:(xs.map (·.1))[i]? = some xs[i].1:=by rw [List.getElem?_map,List.getElem?_eq_getElem (by omega)];rfl
 rw [←hx,List.getElem?_map,List.getElem?_eq_getElem hil] at h4;injection h4 with h4;have h5:DataW.trod enc P w base sp held m t ((cs.drop (i*n)).take n)=some (.agg (bs[i].map fun b=>.lit (.bool b)),xs[i].2):=by rw [h1];exact congrArg some (Prod.ext h4.symm rfl)
 have h6:=Bd ht2 he hc h5 j hj;have h7:j<n:=by have:=hbs _ (List.getElem_mem hil);omega
 rw [List.getElem?_take,if_pos h7,List.getElem?_drop] at h6;exact h6
end
theorem FL {W:World} (h:laidMetH prog gH W):Tog W:=by
 rw [Go.MakeChecks.laidMetH_plain _ _ _ (by kernel_rfl)] at h;obtain ⟨_,hv,_⟩:=h;obtain ⟨g',t',cs,fuel,p,h1,h2,h3,h4⟩:=iY hv "clusterlocks/mode.together" Rows.laid_clusterlocks_mode_together (by simp [gH,Rows.centralSafeRow]);have hg:prog.globalNamed "clusterlocks/mode.together" = some 1:=by kernel_rfl
 have ht:(prog.globals[1]?).map (·.type)=some 287:=by kernel_rfl
 obtain rfl:=Option.some.inj (hg.symm.trans h1);obtain rfl:=Option.some.inj (ht.symm.trans h2);have h5:=Be (bs:=[[true,true,true,true,false],[true,true,false,false,false],[true,false,true,false,false],[true,false,false,false,false],[false,false,false,false,false]]) (k:=5) (n:=5) (e:=4) (t:=286) underlying287 underlying286 underlying4 (by kernel_rfl) (by kernel_rfl) (by decide) h4;refine ⟨fun i j hi hj=>?_⟩;rw [zG hg h3,←Array.getElem?_toList]
 match i,hi,j,hj with
 | 0,_,0,_=>exact h5 0 0 (by decide) (by decide)
 | 0,_,1,_=>exact h5 0 1 (by decide) (by decide)
 | 0,_,2,_=>exact h5 0 2 (by decide) (by decide)
 | 0,_,3,_=>exact h5 0 3 (by decide) (by decide)
 | 0,_,4,_=>exact h5 0 4 (by decide) (by decide)
 | 1,_,0,_=>exact h5 1 0 (by decide) (by decide)
 | 1,_,1,_=>exact h5 1 1 (by decide) (by decide)
 | 1,_,2,_=>exact h5 1 2 (by decide) (by decide)
 | 1,_,3,_=>exact h5 1 3 (by decide) (by decide)
 | 1,_,4,_=>exact h5 1 4 (by decide) (by decide)
 | 2,_,0,_=>exact h5 2 0 (by decide) (by decide)
 | 2,_,1,_=>exact h5 2 1 (by decide) (by decide)
 | 2,_,2,_=>exact h5 2 2 (by decide) (by decide)
 | 2,_,3,_=>exact h5 2 3 (by decide) (by decide)
 | 2,_,4,_=>exact h5 2 4 (by decide) (by decide)
 | 3,_,0,_=>exact h5 3 0 (by decide) (by decide)
 | 3,_,1,_=>exact h5 3 1 (by decide) (by decide)
 | 3,_,2,_=>exact h5 3 2 (by decide) (by decide)
 | 3,_,3,_=>exact h5 3 3 (by decide) (by decide)
 | 3,_,4,_=>exact h5 3 4 (by decide) (by decide)
 | 4,_,0,_=>exact h5 4 0 (by decide) (by decide)
 | 4,_,1,_=>exact h5 4 1 (by decide) (by decide)
 | 4,_,2,_=>exact h5 4 2 (by decide) (by decide)
 | 4,_,3,_=>exact h5 4 3 (by decide) (by decide)
 | 4,_,4,_=>exact h5 4 4 (by decide) (by decide)
theorem yp {W:World} (h:laidMetH prog gH W) (_:W.ShapedOpen prog):Tog W:=FL h
end
structure Nd where
 proc:Pr
 expr:Ex
 gen:Int
def JP (d:Nat):El Nd where
 n:=9
 pos:=by decide
 rep:=fun w S x cs=>∃A cap,cs=[.int .i64 x.proc.site,.int .i64 x.proc.inc,.int .i64 x.proc.num,.int .i64 x.expr.k,.string x.expr.atom.name,.int .i64 x.expr.atom.am.mode,.int .i64 x.expr.atom.am.units,.slice A x.expr.kids.length cap,.int .i64 x.gen]∧(x.expr.kids.length≤cap∧cap≤maxLen)∧RowsAt (mn d) w S A x.expr.kids
 len:=fun h=>by obtain ⟨A,cap,rfl,_⟩:=h;rfl
 one:=fun h=>by obtain ⟨A,cap,rfl,_⟩:=h;intro u hu;simp at hu;rcases hu with rfl|rfl|rfl|rfl|rfl|rfl|rfl|rfl|rfl <;> rfl
 same:=fun h hk hS=>by
  obtain ⟨A,cap,e,h1,h2⟩:=h;exact ⟨A,cap,e,h1,h2.same hk hS⟩
section
open Go.WideShapes Go.ChangeShapes Go.Deep Go.Joins
section
variable {H:Type} {enc:TypeId×Value→H} {w:World} {base:Nat} {spare:Nat→Bool} {held:Bool}
theorem py {r:Reach} {b0:Nat} {v:Value} {d:DataW H} {p:List MemPlace} (hv:Value.okWide prog w r b0 22 v) (h:DataW.Trod enc prog w base spare held 22 v d p):∃l:List Int,∀ρ,(V0.one (.sl ov l)).rep w (Lo w.heap.size) ρ v:=by
 obtain ⟨a0,len,cap0,rfl⟩:=okWide_slice underlying22 hv;obtain ⟨fuel,hf⟩:=h;obtain ⟨l,⟨A,cap,hc,h1,h2,h3⟩,_⟩:=(Opens.sl (E:=ov) (fits:=Jx) (zC underlying3) underlying22 (by kernel_rfl)) hf;have hc':[Value.slice a0 len cap0]=[.slice A l.length cap]:=by simpa [Value.cells] using hc
 injection hc' with hc';exact ⟨l,fun ρ=>⟨A,cap,hc',⟨h1,h2⟩,h3⟩⟩
end
end
section
variable {P:Program} {nt:Nat} {Ks:List Nat} {Q:Exit→Mst→Prop} {s:Mst}
theorem lP (id:Nat) {l:List Oper} {dr:Bool} {y:Code} (h:AW P nt Ks (.seq (.region id l.toArray dr) y) Q s):AW P nt Ks (.seq (.region id l.toArray dr) y) Q s:=h
theorem lQ (id:Nat) {l:List Oper} {dr:Bool} (h:AW P nt Ks (.region id l.toArray dr) Q s):AW P nt Ks (.region id l.toArray dr) Q s:=h
end
theorem B5 {s:Mst} {α:Type} {E:El α} [J:Dp E] {x:Operand} {k n:Nat} {e:TypeId} {cs:List D} (m:List α) (hx:s.ev x = .c (.slb k n)) (hk:s.h k=some (.box e cs)) (hm:All2 NR cs (m.flatMap J.deep)) (hn:m.length=n):Fj s E x m [k]:=fun c st ρ a w hr he h2=>by
 have hv:=hr.ev x;rw [he,hx] at hv;obtain ⟨g,hg,hv⟩:=hv;subst hn;obtain ⟨vs,hB,hA,_⟩:=hr.box ((h2 k (by simp [aD])).trans hk) hg;exact ⟨_,_,vs,hv,dW (NR.reps hm hA),fun _=>⟨g,0,rfl,fun j u hu=>by rw [Nat.zero_add];exact hB.cellx j (by simpa using hu)⟩⟩
theorem wc {s:Mst} {α:Type} {E:El α} [J:Dp E] {x:Operand} {k n:Nat} {e:TypeId} {cs:List D} (m:List α) (hx:s.ev x = .c (.slb k n)) (hk:s.h k=some (.box e cs)) (hn:m.length=n) (hm:All2 NR cs (m.flatMap J.deep):=by (repeat' (first|exact trivial|exact .same _|exact .nil|refine ⟨?_,?_⟩));first|done|fail):Fj s E x m [k]:=B5 m hx hk hm hn
instance:ST prog jx 108 40 24:=⟨ElTB.mk' underlying108 (.agg #[.int .i64 0,.int .i64 0,.int .i64 0]) 3 24 (by kernel_rfl) rfl rfl⟩
abbrev iK (k:Nat) (p:Pr):Nat×Box:=(k,.box 40 [.sc (.int .i64 p.site),.sc (.int .i64 p.inc),.sc (.int .i64 p.num)])
theorem xI (q:Qu) (l:List Qu):jS (q :: l)=ef q++jS l:=rfl
theorem yU:∀{l:List Ex},Bu l=true→∀x∈l,vj x=true
 | [],_,_,hx=>absurd hx (by simp)
 | y :: l,h,x,hx=>by
  rw [lq,Bool.and_eq_true] at h;rcases List.mem_cons.1 hx with rfl|hx
  ·exact h.1
  ·exact yU h.2 x hx
theorem Gn (d:Nat) (x:Ex) (L:List Tm) (set:List Bool) (hx2:vj x=true) (hL:L.length≤1000) (hs:set.length≤1000):FSpec prog 32 [x.a d,.one (.sl c7 L),.one (.sl c9 set)] [] [] (.b (sy (ce L set) x)) []:=by
 revert d x;refine fun d x=>Ex.ind (P:=fun x=>∀d,vj x=true→FSpec prog 32 [x.a d,.one (.sl c7 L),.one (.sl c9 set)] [] [] (.b (sy (ce L set) x)) []) (fun k a l ih=>?_) x d;intro d hx2;rw [tM,Bool.and_eq_true] at hx2;obtain ⟨hh,hx2⟩:=hx2;unfold vi at hh;obtain ⟨v,hv⟩:∃v,sy (ce L set) (.mk k a l)=v:=⟨_,rfl⟩;rw [hv];rw [Bz] at hv;show FSpec prog 32 [.ag (xL d k a l),.one (.sl c7 L),.one (.sl c9 set)] [] [] (.b v) [];refine aT func32 ?_;cases hE:l.isEmpty with
 | true =>
  obtain rfl:=List.isEmpty_iff.1 hE;rw [hE,cond_true] at hh hv;simp only [Bool.and_eq_true,decide_eq_true_eq] at hh;obtain ⟨rfl,_⟩:=hh;repeat' (first|refine af ?_ ?_|refine ae ?_|exact ah|refine ab fun hb=>?_)
  refine ak (fun i=>i≤L.length∧ce (L.drop i) (set.drop i) a=v) (fun i=>cq [3] [(1,.c (.sl c7 L)),(2,.c (.sl c9 set)),(3,.c (.ptr 3 0)),(7,.i i)] [(3,.box 47 (xL d 0 a []))]) (fun i=>L.length-i) 0 ⟨Nat.zero_le _,hv⟩ a7 ?_;rintro i ⟨hi,hs⟩;by_cases hlt:i<L.length
  ·rw [List.drop_eq_getElem_cons hlt,oK,List.tail_drop] at hs;by_cases hsi:i<set.length
   ·rw [show set.drop i=_ from List.drop_eq_getElem_cons hsi] at hs;repeat' (first|refine af ?_ ?_|refine ae ?_|exact ah|refine ab fun hb=>?_)
    ·refine fm ?_;rw [←hs];simp [*]
    ·refine ⟨i+1,⟨by omega,?_⟩,by omega,?_⟩
     ·rw [←hs];simp [*]
     ·exact a7
   ·rw [show set.drop i=[] from List.drop_eq_nil_of_le (by omega)] at hs;repeat' (first|refine af ?_ ?_|refine ae ?_|exact ah|refine ab fun hb=>?_)
    ·refine fm ?_;rw [←hs];simp [*]
    ·refine ⟨i+1,⟨by omega,?_⟩,by omega,?_⟩
     ·rw [←hs];simp [*]
     ·exact a7
  ·rw [List.drop_eq_nil_of_le (by omega)] at hs;repeat' (first|refine af ?_ ?_|refine ae ?_|exact ah|refine ab fun hb=>?_)
   refine fm ?_;rw [←hs];rfl
 | false =>
  have hl0:0<l.length:=List.length_pos_iff.2 fun e=>by rw [e] at hE;cases hE
  refine bd (fun c ρ a w hr=>iy (t:=0) (i:=4) hr rfl rfl) (fun hx=>?_);obtain ⟨hlen,hne⟩:=hx;obtain ⟨e,rfl⟩:=hne hl0;rw [hE,cond_false] at hh hv;simp only [Bool.and_eq_true,decide_eq_true_eq] at hh;have hk:1≤k:=hh.1.1;clear hh hne;obtain ⟨N,hN⟩:∃N,zR (ce L set) l=N:=⟨_,rfl⟩;rw [hN] at hv;repeat' (first|refine af ?_ ?_|refine ae ?_|exact ah|refine ab fun hb=>?_)
  refine ak (fun x:Nat×Nat=>x.1≤l.length∧x.2≤x.1∧x.2+zR (ce L set) (l.drop x.1)=N) (fun x=>cq [3] [(1,.c (.sl c7 L)),(2,.c (.sl c9 set)),(3,.c (.ptr 3 0)),(8,.i x.2),(9,.i x.1)] [(3,.box 47 (xL (e+1) k a l))]) (fun x=>l.length-x.1) (0,0) ⟨Nat.zero_le _,Nat.le_refl _,by simpa using hN⟩ a7 ?_;rintro ⟨i,n⟩ ⟨hi,hn,hs⟩;dsimp only at *
  by_cases hlt:i<l.length
  ·rw [List.drop_eq_getElem_cons hlt,vm] at hs;have kS:=ih l[i] (List.getElem_mem hlt) e (yU hx2 _ (List.getElem_mem hlt));obtain ⟨b,hb1⟩:∃b,sy (ce L set) l[i]=b:=⟨_,rfl⟩;rw [hb1] at kS hs;clear ih hb1;repeat' (first|refine af ?_ ?_|refine aa 9 rfl (cB [] (kS) ?_)|refine ae ?_|exact ah|refine ab fun hb=>?_)
   ·refine ⟨(i+1,n+1),⟨by dsimp only;omega,by dsimp only;omega,by rw [hb] at hs;simp at hs;dsimp only;omega⟩,by dsimp only;omega,?_⟩;exact a7
   ·refine ⟨(i+1,n),⟨by dsimp only;omega,by dsimp only;omega,by rw [hb] at hs;simpa using hs⟩,by dsimp only;omega,?_⟩;exact a7
  ·rw [List.drop_eq_nil_of_le (by omega)] at hs;obtain rfl:n=N:=hs;repeat' (first|refine af ?_ ?_|refine ae ?_|exact ah|refine ab fun hb=>?_)
   refine fm ?_;rw [←hv]
theorem Gp (d:Nat) (x:Ex) (set:List Bool) (hs:set.length≤1000):FSpec prog 12 [x.a d,.one (.sl c9 set)] [] [] (.b (dE x set)) []:=by
 unfold dE;refine aT func12 ?_;cases hv:kf x with
 | false =>
  repeat' (first|refine af ?_ ?_|refine aa 9 rfl (cC [] (yT d x) ?_)|refine ae ?_|exact ah|(refine ab fun hb=>?_;first|(simp [hv] at hb;done)|skip)|exact bB|fail)
 | true =>
  obtain ⟨hsh,_,h8,_,_⟩:=mt hv;repeat' (first|refine af ?_ ?_|(refine aa 9 rfl ?_;first|(refine cC [] (yT d x) ?_)|(refine cB [] (Gn d x (cJ x) set hsh (by omega) hs) ?_))|refine ae ?_|exact ah|(refine ab fun hb=>?_;first|(simp [hv] at hb;done)|skip)|exact bB|fail)
def Nd.d (d:Nat) (x:Nd):List D:=[.sc (.int .i64 x.proc.site),.sc (.int .i64 x.proc.inc),.sc (.int .i64 x.proc.num),.sc (.int .i64 x.expr.k),.sc (.string x.expr.atom.name),.sc (.int .i64 x.expr.atom.am.mode),.sc (.int .i64 x.expr.atom.am.units),.sl (mn d) x.expr.kids,.sc (.int .i64 x.gen)]
instance (d:Nat):Dp (JP d) where
 deep:=Nd.d d
 get:=by
  rintro w F ρ x cs ⟨A,c,rfl,h1,h2⟩;exact ⟨rfl,rfl,rfl,rfl,rfl,rfl,rfl,⟨A,c,rfl,h1,h2⟩,rfl,trivial⟩
 put:=by
  intro w F ρ x cs h
  match cs,h with
  | [_,_,_,_,_,_,_,_,_],⟨rfl,rfl,rfl,rfl,rfl,rfl,rfl,⟨A,c,rfl,h1,h2⟩,rfl,_⟩=>exact ⟨A,c,rfl,h1,h2⟩
 nok:=fun _ _=>rfl
theorem Cd {n:Nat} {q:Qu} {acc:List Ho} (hs:Sd q) (h:av q=true):d5 n q acc=(q,acc):=by
 cases n with
 | zero=>rfl
 | succ n =>
  have h2:=(cr.1 h).2;unfold d5;cases hh:dm q with
  | none=>rfl
  | some x=>dsimp only;rw [h2 x hh];rfl
theorem Av {n:Nat} {q:Qu} {acc:List Ho} (hs:Sd q) (h:av q=false) (hn:fF q≤n):∃x,dm q=some x∧Sd (gc q x)∧fF (gc q x)+1=fF q∧0<n∧d5 n q acc=d5 (n-1) (gc q x) (acc++[⟨x.proc,x.am⟩]):=by
 cases hh:dm q with
 | none=>rw [cr.2 ⟨hs,fun x hx=>by rw [hh] at hx;cases hx⟩] at h;cases h
 | some x =>
  have hr:f5 q.res q.holds x.proc x.am=true:=by
   cases hc:f5 q.res q.holds x.proc x.am with
   | true=>rfl
   | false=>rw [cr.2 ⟨hs,fun y hy=>by rw [hh] at hy;injection hy with hy;rw [←hy];exact hc⟩] at h;cases h
  have hp:=xw hh;obtain ⟨m,rfl⟩:∃m,n=m+1:=⟨n-1,by omega⟩;refine ⟨x,rfl,hs.pop hh hr,hp,Nat.succ_pos _,?_⟩;rw [d5,hh];dsimp only;rw [hr];rfl
def Aw:List D:=[.sc (.string ⟨#[]⟩),.sc (.int .i64 0),.sc (.int .i64 0),.sc (.int .i64 0),.sc (.slice none 0 0),.sc (.slice none 0 0),.sc (.slice none 0 0),.sc (.int .i64 0)]
theorem c5 {P:Program} {o:Oper} {s:Mst} {t e:TypeId} {x:Operand} {k n:Nat} [SE P t e] (ho:o.op = .call { callee:=.builtin .len,args:=#[x],argTypes:=#[t] }) (hx:s.ev x = .c (.slb k n)):LOp P o s [] ⟨.i n,[],[]⟩ :=
 ga (ty:=0) ho fun c st ρ a w hr he _=>by
  have hv:=hr.ev x;rw [he,hx] at hv;obtain ⟨g,_,hv⟩:=hv;exact ⟨_,_,hv⟩
theorem aR {P:Program} {o:Oper} {s:Mst} {t e:TypeId} {x y:Operand} {row:Bool} {n i k m:Nat} {kd:IntKind} {z:Int} (ho:o.op = .indexAddr t x y) (hx:s.ev x = .c (.slb k m)) (hy:s.ev y = .c (.sc (.int kd z))) [SE P t e] [TI P e row n] (hz:z=(i:Int)) (hi:i<m) :
  LOp P o s [] ⟨.c (.ptr k (i*n)),[],[]⟩ :=
 bi fun c st ρ a w hr h1 _=>by
  have he:=h1 x (by simp [ho,Op.operands]);have he2:=h1 y (by simp [ho,Op.operands]);rw [hx] at he;rw [hy] at he2;have hv:=hr.ev x;rw [he] at hv;have hv2:=hr.ev y;rw [he2] at hv2;obtain ⟨g,hg,hv⟩:=hv;have hv2:a.eval y = .int kd z:=hv2;subst hz;refine ⟨.pointer (some ⟨g,i*n,none⟩),by unfold execOp;rw [ho];simp only [hv,hv2,Sem.run_bind,gq w m m i hi,Result.andThen_ok,Sem.run_pure,Nat.zero_add],⟨g,hg,rfl⟩,fun k' hk=>hr.nf (x:=x) he hk⟩
def um (R:Qu×List Ho×Int):TV:=.tup [R.1.a,.one (.sl jR R.2.1),.one (.sc (.int .i64 R.2.2))]
theorem bF {α:Type} {b:Bool} {x y:α} (h:b=false):(bif b then x else y)=y:=by rw [h];rfl
theorem bT {α:Type} {b:Bool} {x y:α} (h:b=true):(bif b then x else y)=x:=by rw [h];rfl
theorem mF (q:Qu) (p:Pr) (a:Am) (prio:Int) {R:Qu×List Ho×Int} (hR:bv q p a prio=R) (hS:av q=true) (hv:j8 p=true) (h1:0≤prio) (h2:prio≤7) (hf:aC q.res a=true) (hw:ai q p=none) (hc:a8 q.res (ao q.holds p) a=false) :
  R=(bif !aG (ao q.holds p) then ic (dn { q with convs:=q.convs++[⟨p,bN q.res (ao q.holds p) a,0,0⟩] }) else
 bif decide (8≤q.holds.length+q.waits.length) then bP 4 else
 bif !decide ((jU q.waits ⟨p,a,prio,0⟩).1=0) then bP (jU q.waits ⟨p,a,prio,0⟩).1 else
 ic (dn { q with waits:=(jU q.waits ⟨p,a,prio,0⟩).2 })):=by
 rw [←hR];simp [bv,hS,hv,h1,h2,hf,hw,hc]
section
variable {P:Program} {nt:Nat} {Ks:List Nat} {Q:Exit→Mst→Prop} {s:Mst}
theorem Cp {a:Act} {t:Nat} {v:Value} (hv:a.tmps.getD t undef=v):a.put (some t) v=a:=by
 cases a with
 | mk tmps defers =>
  simp only [Act.put];congr 1
  apply Array.ext
  ·simp
  ·intro i h1 h2;rw [Array.getElem_setIfInBounds];split
   ·rename_i h3
    subst h3;rw [←hv];simp [Array.getD_eq_getD_getElem?,h2]
   ·rfl
theorem Gy {x:Code} {α:Type} {E:El α} [J:Dp E] (t j k:Nat) (l:List α) {e:TypeId} {cs:List D} {n:Nat} (ht:s.t t = .c (.slb j n)) (hj:s.h j=some (.box e cs)) (hm:l.flatMap J.deep=cs) (hn:l.length=n) (hfk:s.f k=true) (hnt:Nat.blt t nt=true) (hl:Nat.ble n 1000000=true) (h:AW P nt Ks x Q (s.app (some t) ⟨.c (.own k),[(k,some (.arr e E l)),(j,none)],[k]⟩)):AW P nt Ks x Q s:=by
 intro c ρ a w hc hK hr;subst hm;subst hn;have hv:=hr.tmp t;rw [ht] at hv;obtain ⟨g,hg,hv⟩:=hv;obtain ⟨vs,hB,hA,_⟩:=hr.box hj hg;have hre:=dW hA;have hkbg:kb (ρ j)=some g:=by rw [hg];rfl
 have hne:k.beq j=false:=by
  cases h9:k.beq j with
  | false=>rfl
  | true=>rw [←Nat.eq_of_beq_eq_true h9,hr.wf.h k hfk] at hj;cases hj
 have hvl:=hre.length;have hown:w.ownsRow 0 e E.n (.slice (some ⟨g,0,none⟩) l.length l.length) l.length vs:=⟨hvl,.inr ⟨g,l.length,vs.toArray,rfl,Nat.zero_le _,hB,Nat.le_refl _,by have:=Nat.le_of_ble_eq_true hl;simp only [maxLen];omega,by simpa using hvl,by rw [←hvl];simp⟩⟩;have hputk:hput [(k,some (Box.arr e E l)),(j,none)] s.h k=some (.arr e E l):=by simp [hput]
 have hputj:hput [(k,some (Box.arr e E l)),(j,none)] s.h j=none:=by simp [hput,hne]
 have hky:∀q,ax [(k,some (Box.arr e E l)),(j,none)] q=true→q=k∨q=j:=fun q h=>by
  simp only [ax,Bool.or_eq_true,Bool.or_false] at h;rcases h with h|h
  ·exact .inl (Nat.eq_of_beq_eq_true h).symm
  ·exact .inr (Nat.eq_of_beq_eq_true h).symm
 have hsm:∀q bx,ax [(k,some (Box.arr e E l)),(j,none)] q=true→hput [(k,some (Box.arr e E l)),(j,none)] s.h q=some bx→q=k∧bx = .arr e E l:=fun q bx hq hb=>by
  rcases hky q hq with rfl|rfl
  ·rw [hputk] at hb;exact ⟨rfl,(Option.some.inj hb).symm⟩
  ·rw [hputj] at hb;cases hb
 have hFz:∀b,Fz c s.h ρ w b→Fz c (hput [(k,some (Box.arr e E l)),(j,none)] s.h) (upd ρ k (.slice (some ⟨g,0,none⟩) l.length l.length)) w b:=fun b hb=>by
  refine ⟨hb.1,hb.2.1,fun q bx hq he=>?_⟩;cases h9:ax [(k,some (Box.arr e E l)),(j,none)] q with
  | true =>
   obtain ⟨rfl,_⟩:=hsm q bx h9 hq;rw [aI] at he;exact hb.2.2 j _ hj (hkbg.trans (by injection he with he;rw [←he]))
  | false =>
   rw [bD h9] at hq;have hkq:k.beq q=false:=by
    cases h8:k.beq q with
    | false=>rfl
    | true=>rw [←Nat.eq_of_beq_eq_true h8,hr.wf.h k hfk] at hq;cases hq
   rw [de hkq] at he;exact hb.2.2 q bx hq he
 have h2:=hr.app (ρ':=upd ρ k (.slice (some ⟨g,0,none⟩) l.length l.length)) (w':=w) (dst:=some t) (v:=.slice (some ⟨g,0,none⟩) l.length l.length) (e:=⟨.c (.own k),[(k,some (.arr e E l)),(j,none)],[k]⟩) (fun d hd=>by injection hd with hd;subst hd;rw [hc];simpa using hnt)
  (fun q hq=>by
   have:q=k:=by simp [aD] at hq;exact hq.symm
   subst this;exact ⟨hfk,by simp [ax]⟩)
  (fun q hq=>de (by simpa [aD] using hq))
  (fun q hq=>by
   rcases hky q hq with rfl|rfl
   ·exact .inl (by simp [aD])
   ·exact .inr (hr.nfh hj)) (Frx.refl _ _)
  (fun q bx g' hq hb hg'=>by
   obtain ⟨rfl,_⟩:=hsm q bx hq hb;rw [aI] at hg';injection hg' with hg';subst hg';exact ⟨hr.ltb hj hkbg,.inr ⟨j,_,by simp [ax],hj,hkbg⟩⟩)
  (fun q q' b b' g hq hq' hb hb' _ _=>by rw [(hsm q b hq hb).1,(hsm q' b' hq' hb').1])
  (fun q hq=>.inl (by
   have:q=k:=by simp [TV.has,V0.has,D.has] at hq;exact hq.symm
   subst this;simp [aD]))
  (fun q q' bx hq' hb hx2=>by
   rw [(hsm q' bx hq' hb).2] at hx2;simp [Box.has] at hx2)
  (fun q bx hq hb=>by
   obtain ⟨rfl,rfl⟩:=hsm q bx hq hb;rw [aI];exact ⟨_,hown,hre.same (fun _ _=>rfl) hFz⟩)
  (aI ρ k _).symm
 rw [Cp hv] at h2;exact h c _ a w hc hK h2
end
instance:ST prog eX 29 58 120:=⟨ElTB.mk' underlying29 (.agg #[.string { data:=#[] },.int .i64 0,.int .i64 0,.int .i64 0,.slice none 0 0,.slice none 0 0,.slice none 0 0,.int .i64 0]) 8 120 (by kernel_rfl) rfl rfl⟩
theorem Cq {t:List Qu} (h:f7 t=true):t.length≤8∧∀q∈t,av q=true:=by
 unfold f7 at h;rw [Bool.and_eq_true,decide_eq_true_eq] at h;exact ⟨h.1,pn h.2⟩
theorem cR {q:Qu} (h:av q=true):fy q:=by
 have hs:=aF h;exact ⟨hs.hv.len,hs.clen,by have:=hs.wlen;omega⟩
theorem s8:∀(n:Nat) (q:Qu) (acc:List Ho),(d5 n q acc).2.length≤acc.length+n
 | 0,q,acc=>Nat.le_refl _
 | n+1,q,acc=>by
  unfold d5;cases dm q with
  | none=>dsimp only;omega
  | some x =>
   dsimp only;cases f5 q.res q.holds x.proc x.am with
   | true =>
    have:=s8 n (gc q x) (acc++[⟨x.proc,x.am⟩]);simp at this ⊢;omega
   | false=>simp
theorem lU (q:Qu):(dn q).2.length≤q.convs.length+q.waits.length:=by
 have:=s8 (fF q) q [];simpa [dn,lC,fF] using this
theorem Cr (l:List Wt) (w:Wt):(jU l w).2.length≤l.length+1:=by
 unfold jU;cases fD l <;> cases (rk w && decide (w.passed=0)) <;> cases decide (0≤dB l w.proc) <;> cases decide (l.length=8) <;> simp [vF]
theorem pF {q:Qu} (h:av q=true) (p:Pr) (a:Am) (prio:Int):(bv q p a prio).2.1.length≤17:=by
 have hs:=aF h;have h2:=hs.clen;have h3:=hs.wlen;unfold bv;have e1:=lU { q with convs:=q.convs++[⟨p,bN q.res (ao q.holds p) a,0,0⟩] };have e2:=lU { q with waits:=(jU q.waits ⟨p,a,prio,0⟩).2 };have e3:=Cr q.waits ⟨p,a,prio,0⟩;simp only [List.length_append,List.length_cons,List.length_nil] at e1 e2;repeat' (first|(simp [bP,ic];done)|(simp only [ic];omega)|(rw [cond_eq_ite];split))
theorem nF {q:Qu} (h:av q=true) (p:Pr):(be q p).2.1.length≤17:=by
 have hs:=aF h;have h2:=hs.clen;have h3:=hs.wlen;have e1:=lU { q with convs:=bV q.convs p,waits:=bV q.waits p };have e2:=gT q.convs p;have e3:=gT q.waits p;dsimp only at e1;unfold be;repeat' (first|(simp [bP,ic];done)|(simp only [ic];omega)|(rw [cond_eq_ite];split))
theorem pG {q:Qu} (h:av q=true) (p:Pr) (a:Am):(bk q p a).2.1.length≤17:=by
 have hs:=aF h;have h2:=hs.clen;have h3:=hs.wlen;have e1:=lU { q with holds:=cm q.holds p a };dsimp only at e1;unfold bk;repeat' (first|(simp [bP,ic];done)|(simp only [ic];omega)|(rw [cond_eq_ite];split))
theorem nG {q:Qu} (h:av q=true) (p:Pr):(aV q p).2.1.length≤17:=by
 have hs:=aF h;have h2:=hs.clen;have h3:=hs.wlen;have e1:=lU { q with holds:=cm q.holds p ⟨0,0⟩,convs:=bV q.convs p,waits:=bV q.waits p };have e2:=gT q.convs p;have e3:=gT q.waits p;dsimp only at e1;unfold aV;repeat' (first|(simp [bP,ic];done)|(simp only [ic];omega)|(rw [cond_eq_ite];split))
def Gz (R:List Qu×List Ev×Int):TV:=.tup [.one (.sl eX R.1),.one (.sl iQ R.2.1),.one (.sc (.int .i64 R.2.2))]
theorem fQ {t:List Qu} {n:ByteArray} (h:¬bR n 0 t<0):∃i,∃hi:i<t.length,bR n 0 t=(i:Int)∧t.getD (gE t n) iI=t[i]∧gE t n=i:=by
 obtain ⟨i,hi,h1,_⟩:=ir (Int.not_lt.1 h);have h2:bR n 0 t=(i:Int):=by rw [h1];simp
 refine ⟨i,hi,h2,?_,?_⟩
 ·unfold gE;rw [h2];simp [List.getD_eq_getElem?_getD,hi]
 ·unfold gE;rw [h2];rfl
theorem dQ (x:Ex):(cJ x).length≤8:=by
 cases hv:kf x with
 | false=>rw [oL hv];simp
 | true=>exact (mt hv).2.2.1
instance:Dp dS:=eb _ _ _ _ _
instance:ST prog dS 25 54 40:=⟨ElTB.mk' underlying25 (.agg #[.string { data:=#[] },.int .i64 0,.int .i64 0,.int .i64 0]) 4 40 (by kernel_rfl) rfl rfl⟩
def cU (t:List Qu):List Rs:=t.map (·.res)
abbrev iS:V0:=.one (.ptr 0 0)
abbrev uu (n:Int):V0:=.one (.sc (.int .i64 n))
theorem fI {w:Wk} {i:Nat} {x:Pc} (h:w.c.procs[i]? = some x):w.pc i=x:=by unfold Wk.pc;rw [List.getD_eq_getElem?_getD,h];rfl
theorem gl {α:Type} {l:List α} {i:Nat} (h:i<l.length) (y:α):(l.set i y)[i]? = some y:=by simp [h]
def Ji:Option Nat→Int
 | some i=>i
 | none=>-1
theorem uv (acc:List ByteArray) (e:En) (l:List En):dD acc (e :: l)=dD (bif es e.name acc then acc else ku e.name acc) l:=rfl
theorem pI (n:ByteArray):∀l:List ByteArray,(ku n l).length=l.length+1
 | []=>rfl
 | m :: l=>by
  unfold ku;cases jE n m with
  | true=>rfl
  | false=>simp [pI n l]
theorem EH:ElTB prog FH 111 9 16:=ElTB.mk' underlying111 (.string ⟨#[]⟩) 1 16 (by kernel_rfl) rfl rfl
instance:ST prog FH 111 9 16:=⟨EH⟩
structure CatOk (l:List Rs):Prop where
 len:l.length≤8
 ok:∀x∈l,jQ x=true
 asc:∀i (h:i+1<l.length),jE (l[i]'(by omega)).name l[i+1].name=true
theorem GC {t:List Qu} (h:dl t=true):CatOk (cU t):=by
 have hp:=bE h;refine ⟨by simp [cU];exact hp.1,fun x hx=>?_,fun i hi=>?_⟩
 ·obtain ⟨q,hq,rfl⟩:=List.mem_map.1 hx;exact (aF (cj h hq)).res
 ·have:=(jh hp.2.1).1;have hi':i+1<t.length:=by simpa [cU] using hi
  have h2:=(List.pairwise_iff_getElem.1 this) i (i+1) (by simp [dN];omega) (by simp [dN];omega) (by omega);simpa [dN,cU] using h2
theorem jM (x:Pc):∀l:List Pc,(jV x l).Perm (x :: l)
 | []=>List.Perm.refl _
 | y :: l=>by
  show (bif decide (0<bC y.proc x.proc) then x :: y :: l else y :: jV x l).Perm _;cases decide (0<bC y.proc x.proc) with
  | true=>exact List.Perm.refl _
  | false=>exact ((jM x l).cons y).trans (List.Perm.swap x y l)
theorem wy {x:Pc}:∀{l:List Pc},(l.map (·.proc)).Pairwise fC→(∀y∈l,y.proc≠x.proc)→((jV x l).map (·.proc)).Pairwise fC
 | [],_,_=>by simp [jV]
 | y :: l,h,hn=>by
  rw [List.map_cons] at h;obtain ⟨h1,h2⟩:=List.pairwise_cons.1 h;have hyx:=hn y (by simp);show ((bif decide (0<bC y.proc x.proc) then x :: y :: l else y :: jV x l).map (·.proc)).Pairwise fC;by_cases hc:0<bC y.proc x.proc
  ·rw [decide_eq_true hc,cond_true,List.map_cons,List.map_cons];have hlt:fC x.proc y.proc:=by
    rcases fK x.proc y.proc with h3|h3|h3
    ·exact h3
    ·exact absurd h3.symm hyx
    ·have:=(fL _ _).2 h3;omega
   refine List.pairwise_cons.2 ⟨?_,List.pairwise_cons.2 ⟨h1,h2⟩⟩;intro z hz;rcases List.mem_cons.1 hz with rfl|hz
   ·exact hlt
   ·exact cX hlt (h1 z hz)
  ·rw [decide_eq_false hc,cond_false,List.map_cons];have hlt:fC y.proc x.proc:=by
    rcases dd y.proc x.proc with ⟨h5,_⟩|⟨h5,_⟩|⟨_,h6⟩
    ·exact h5
    ·exact absurd h5 hyx
    ·omega
   refine List.pairwise_cons.2 ⟨?_,wy h2 fun z hz=>hn z (by simp [hz])⟩;intro z hz;obtain ⟨u,hu,rfl⟩:=List.mem_map.1 hz;rcases List.mem_cons.1 ((jM x l).mem_iff.1 hu) with rfl|hu
   ·exact hlt
   ·exact h1 _ (List.mem_map.2 ⟨u,hu,rfl⟩)
theorem EN {t:List Qu} (hv:dl t=true) {p:Pr} (hp:p ∉ aB t) {n:ByteArray} (hn:aS t n=true):ao (a6 t n).holds p=⟨0,0⟩∧ai (a6 t n) p=none:=by
 obtain ⟨hm,_⟩:=cW hn;have h1:eQ (a6 t n) p=false:=by
  cases hh:eQ (a6 t n) p with
  | false=>rfl
  | true =>
   refine absurd ?_ hp;unfold aB;rw [cI,eE];exact ⟨_,hm,(dh (aF (cj hv hm)) p).2 hh⟩
 unfold eQ at h1;rw [Bool.or_eq_false_iff,lX,Bool.not_eq_false'] at h1;exact ⟨of_decide_eq_true h1.2,h1.1⟩
theorem EO:Ld Lg.zero:=⟨by simp [Lg.zero],fun k hk=>absurd hk (by simp [Lg.zero]),by simp [Lg.zero,bS,dD],fun x hx=>absurd hx (by simp [Lg.zero]),by simp [Lg.zero],by simp [Lg.zero]⟩
theorem y7 {w:Wk} {p:Pr} {cost:Int} (h:CI w.c) (he:(j6 w p cost).2=0) :
  CI (j6 w p cost).1.c∧(j6 w p cost).1.c.queues=w.c.queues∧(j6 w p cost).1.c.now=w.c.now∧(j6 w p cost).1.c.procs=jV { Eo with proc:=p,cost:=cost } w.c.procs:=by
 unfold j6 at he ⊢;cases hA:j8 p && decide (1≤cost) && decide (cost≤1000) with
 | false=>rw [hA] at he;simp at he
 | true =>
  rw [hA] at he;simp only [Bool.not_true,cond_false] at he ⊢;simp only [Bool.and_eq_true,decide_eq_true_eq] at hA;by_cases hI:0≤cD p 0 w.c.procs
  ·rw [decide_eq_true hI] at he;simp at he
  ·rw [decide_eq_false hI] at he ⊢;simp only [cond_false] at he ⊢;by_cases hL:w.c.procs.length=8
   ·rw [decide_eq_true hL] at he;simp at he
   ·rw [decide_eq_false hL];simp only [cond_false];have hno:=(pX (k:=0)).1 (show cD p 0 w.c.procs<0 by omega);have hnp:p ∉ aB w.c.queues:=fun hm=>by
     obtain ⟨x,hx,e⟩:=List.mem_map.1 (h.cov p hm);exact hno x hx e
    have hperm:=jM { Eo with proc:=p,cost:=cost } w.c.procs;refine ⟨⟨h.now,h.tv,?_,wy h.asc fun y hy=>hno y hy,fun r hr=>?_,fun x hx=>?_⟩,by trivial,by trivial,by trivial⟩
    ·have e1:=hperm.length_eq;rw [List.length_cons] at e1;have e2:=h.len;show (jV { Eo with proc:=p,cost:=cost } w.c.procs).length≤8;rw [e1];omega
    ·obtain ⟨x,hx,e⟩:=List.mem_map.1 (h.cov r hr);exact List.mem_map.2 ⟨x,hperm.mem_iff.2 (by simp [hx]),e⟩
    ·rcases List.mem_cons.1 (hperm.mem_iff.1 hx) with rfl|hx
     ·refine ⟨⟨hA.1.1,⟨hA.1.2,hA.2⟩,EO,by simp [Eo],fun n hn=>absurd rfl hn⟩,fun _=>⟨rfl,rfl,fun n hn=>?_⟩,fun hw=>by cases hw⟩;obtain ⟨k1,k2⟩:=EN h.tv hnp hn;exact ⟨k1,k2⟩
     ·exact h.inv x hx
def CF (now:Int) (x:Pc):Prop:=x.waiting=true∧x.req.limit≠0∧x.since+x.req.limit≤now
theorem kY (now:Int):∀(l:List Pc) (k:Nat) (b:Int×Int),
  ((gY now k l b).1<0→b.1<0∧∀x∈l,¬CF now x)∧(0≤(gY now k l b).1→gY now k l b=b∨∃j,∃h:j<l.length,(gY now k l b).1=((k+j:Nat):Int)∧CF now l[j])
 | [],k,b=>by
  constructor
  ·intro h;exact ⟨h,fun x hx=>absurd hx (by simp)⟩
  ·intro _;exact .inl rfl
 | x :: l,k,b=>by
  have e:gY now k (x :: l) b=gY now (k+1) l (bif x.waiting && !decide (x.req.limit=0) && decide (x.since+x.req.limit≤now) && (decide (b.1<0) || decide (x.since+x.req.limit<b.2)) then ((k:Int),x.since+x.req.limit) else b):=rfl;rw [e];cases hc:x.waiting && !decide (x.req.limit=0) && decide (x.since+x.req.limit≤now) && (decide (b.1<0) || decide (x.since+x.req.limit<b.2)) with
  | true =>
   rw [cond_true];obtain ⟨h1,h2⟩:=kY now l (k+1) ((k:Int),x.since+x.req.limit);simp only [Bool.and_eq_true,decide_eq_true_eq,Bool.not_eq_true',decide_eq_false_iff_not] at hc;constructor
   ·intro h;have:=(h1 h).1;simp only at this;omega
   ·intro h;rcases h2 h with h3|⟨j,hj,h3,h4⟩
    ·exact .inr ⟨0,by simp,by rw [h3];simp,⟨hc.1.1.1,hc.1.1.2,hc.1.2⟩⟩
    ·exact .inr ⟨j+1,by simpa using hj,by rw [h3];omega,by simpa using h4⟩
  | false =>
   rw [cond_false];obtain ⟨h1,h2⟩:=kY now l (k+1) b;constructor
   ·intro h;obtain ⟨h3,h4⟩:=h1 h;refine ⟨h3,fun y hy=>?_⟩;rcases List.mem_cons.1 hy with rfl|hy
    ·rintro ⟨k1,k2,k3⟩;rw [k1,decide_eq_false k2,decide_eq_true k3,decide_eq_true h3] at hc;cases hc
    ·exact h4 y hy
   ·intro h;rcases h2 h with h3|⟨j,hj,h3,h4⟩
    ·exact .inl h3
    ·exact .inr ⟨j+1,by simpa using hj,by rw [h3];omega,by simpa using h4⟩
theorem mO (w:Wk):(et w<0→∀x∈w.c.procs,¬CF w.c.now x)∧(0≤et w→∃h:(et w).toNat<w.c.procs.length,CF w.c.now w.c.procs[(et w).toNat]):=by
 obtain ⟨h1,h2⟩:=kY w.c.now w.c.procs 0 (-1,0);constructor
 ·intro h;exact (h1 h).2
 ·intro h;have h':0≤(gY w.c.now 0 w.c.procs (-1,0)).1:=h;rcases h2 h with h3|⟨j,hj,h3,h4⟩
  ·rw [h3] at h';simp at h'
  ·have e:(et w).toNat=j:=by unfold et;rw [h3];omega
   exact ⟨by rw [e];exact hj,by simp only [e];exact h4⟩
theorem CG {c:Cs} {x:Pc} (h1:¬CF c.now x) (h2:dP c.queues x=false):th c x:=fun hw=>by
 refine ⟨?_,h2⟩;by_cases h0:x.req.limit=0
 ·exact .inl h0
 ·right
  refine Classical.byContradiction fun hn=>h1 ⟨hw,h0,by omega⟩
theorem wz:∀(n:Nat) (w:Wk),CI w.c→(∀x∈w.c.procs,dP w.c.queues x=false)→bY w.c.procs≤n→CI (fk n w).c∧(∀x∈(fk n w).c.procs,th (fk n w).c x)∧(fk n w).c.now=w.c.now∧KW w.c.procs (fk n w).c.procs∧(fk n w).c.procs.map (·.proc)=w.c.procs.map (·.proc)
 | 0,w,h,hs,hn=>by
  refine ⟨h,fun x hx hw=>?_,rfl,KW.refl _,rfl⟩;have hx':x∈w.c.procs:=hx;obtain ⟨i,hi,e⟩:=List.mem_iff_getElem.1 hx';have:0<bY w.c.procs:=jJ hi (by rw [e];exact hw);have hn':bY w.c.procs≤0:=hn;omega
 | n+1,w,h,hs,hn=>by
  obtain ⟨s1,s2⟩:=mO w;unfold fk;by_cases he:et w<0
  ·rw [decide_eq_true he];exact ⟨h,fun x hx=>CG (s1 he x hx) (hs x hx),rfl,KW.refl _,rfl⟩
  ·rw [decide_eq_false he,cond_false];obtain ⟨hi,hl1,hl2,hl3⟩:=s2 (by omega);generalize (et w).toNat=i at *
   have hc0:CI (w.note 4 (w.pc i).proc).c:=h;have hw0:((w.note 4 (w.pc i).proc).pc i).waiting=true:=by rw [bG (w:=w.note 4 (w.pc i).proc) hi];exact hl1
   obtain ⟨k1,k2,k3,k4,_⟩:=db hc0 hi hw0;have hi2:i<(az (w.note 4 (w.pc i).proc) i).c.procs.length:=by rw [k3.len];exact hi
   have hrun:((az (w.note 4 (w.pc i).proc) i).pc i).waiting=false:=by rw [bG hi2];simp [k4]
   obtain ⟨n1,n2,n3⟩:=gw k1 hi2 hrun;obtain ⟨q1,q2,q3,q4,q5,q6,_⟩:=g7 n1;have k2':bY (az (w.note 4 (w.pc i).proc) i).c.procs+1=bY w.c.procs:=k2;obtain ⟨r1,r2,r3,r4,r5⟩:=wz n (bf (aY (az (w.note 4 (w.pc i).proc) i) i)) q1 q2 (by omega);refine ⟨r1,r2,?_,?_,?_⟩
   ·exact r3.trans (q4.trans (n2.now.trans k3.now))
   ·exact (k3.kw.trans n2.kw).trans (q6.trans r4)
   ·exact r5.trans (q3.trans (n2.pr.trans k3.pr))
theorem CI.later {c:Cs} (h:CI c) {n:Int} (h0:0≤n) (hm:c.now+n≤1073741824):CI { c with now:=c.now+n } :=
 ⟨by have:=h.now;show 0≤c.now+n∧c.now+n≤1073741824;omega,h.tv,h.len,h.asc,h.cov,fun x hx=>by
  have k:=h.inv x hx;exact ⟨k.stat,k.run,fun hw=>by
   obtain ⟨k1,k2⟩:=k.wat hw;exact ⟨⟨k1.rq,k1.rs,by have:=k1.sn;show 0≤x.since∧x.since≤c.now+n;omega⟩,k2⟩⟩⟩
theorem mP {c:Cs} {x:Pc} (h:th c x):dP c.queues x=false:=by
 cases hw:x.waiting with
 | true=>exact (h hw).2
 | false=>unfold dP;rw [hw];rfl
theorem EP {w:Wk} {n:Int} (h:CI w.c) (hs:∀x∈w.c.procs,dP w.c.queues x=false) (he:(gZ w n).2=0):CI (gZ w n).1.c∧(∀x∈(gZ w n).1.c.procs,th (gZ w n).1.c x)∧(gZ w n).1.c.now=w.c.now+n∧KW w.c.procs (gZ w n).1.c.procs∧(gZ w n).1.c.procs.map (·.proc)=w.c.procs.map (·.proc):=by
 unfold gZ at he ⊢;cases hA:decide (0≤n) && decide (n≤1000) with
 | false=>rw [hA] at he;simp at he
 | true =>
  rw [hA] at he;simp only [Bool.not_true,cond_false] at he ⊢;simp only [Bool.and_eq_true,decide_eq_true_eq] at hA;by_cases hm:1073741824-n<w.c.now
  ·rw [decide_eq_true hm] at he;simp at he
  ·rw [decide_eq_false hm];simp only [cond_false];exact wz _ ⟨{ w.c with now:=w.c.now+n },w.ev⟩ (h.later hA.1 (by omega)) hs (lV _)
theorem cF {α:Type} {b:Bool} {x y:α} (h:b=false):(bif b then x else y)=y:=by rw [h];rfl
theorem cT {α:Type} {b:Bool} {x y:α} (h:b=true):(bif b then x else y)=x:=by rw [h];rfl
theorem Ib {c:Cs} {k:Cm} (h:cM c=true) (he:(oc ⟨c,[]⟩ k).2=0):cM (oc ⟨c,[]⟩ k).1.c=true:=by
 obtain ⟨hci,hun⟩:=bU.1 h;have fin:∀w:Wk,CI w.c→(∀x∈w.c.procs,dP w.c.queues x=false)→KW c.procs w.c.procs→w.c.now=c.now→cM w.c=true:=by
  intro w h1 h2 h3 h4;refine bU.2 ⟨h1,fun x hx hw=>⟨?_,h2 x hx⟩⟩;have h5:=h3 x hx hw;rw [h4];exact (hun x h5 hw).1
 unfold oc at he ⊢;cases hA:decide (1≤k.kind) && decide (k.kind≤9) with
 | false=>rw [hA] at he;simp at he
 | true =>
  rw [hA] at he;simp only [Bool.not_true,cond_false] at he ⊢;by_cases h1:k.kind=1
  ·rw [decide_eq_true h1] at he ⊢;simp only [cond_true] at he ⊢;obtain ⟨k1,k2,k3,k4⟩:=y7 hci he;have hperm:=jM { Eo with proc:=k.proc,cost:=k.n } c.procs;refine bU.2 ⟨k1,fun x hx hw=>?_⟩;rw [k4] at hx;rcases List.mem_cons.1 (hperm.mem_iff.1 hx) with rfl|hx
   ·cases hw
   ·have:=hun x hx hw;rw [k2,k3];exact this
  ·rw [decide_eq_false h1] at he ⊢;simp only [cond_false] at he ⊢;by_cases h9:k.kind=9
   ·rw [decide_eq_true h9] at he ⊢;simp only [cond_true] at he ⊢;obtain ⟨k1,k2,_⟩:=EP hci (fun x hx=>mP (hun x hx)) he;exact bU.2 ⟨k1,k2⟩
   ·rw [decide_eq_false h9] at he ⊢;simp only [cond_false] at he ⊢;by_cases hI:cD k.proc 0 c.procs<0
    ·rw [decide_eq_true hI] at he;simp at he
    ·rw [decide_eq_false hI] at he ⊢;simp only [cond_false] at he ⊢;obtain ⟨i,hi,e,_⟩:=fX (p:=k.proc) (l:=c.procs) (k:=0) (by omega);have ei:(cD k.proc 0 c.procs).toNat=i:=by rw [e];omega
     rw [ei] at he ⊢;by_cases h2:k.kind=2
     ·rw [decide_eq_true h2] at he ⊢;simp only [cond_true] at he ⊢;have hrq:sV k.req=true:=by
       cases hq:sV k.req with
       | true=>rfl
       | false =>
        exfalso;unfold ck at he;rw [hq] at he;cases hw:(Wk.pc ⟨c,[]⟩ i).waiting <;> rw [hw] at he <;> simp at he
      obtain ⟨k1,k2,k3,_,k5,_⟩:=pT hci hi he;refine bU.2 ⟨k1,fun x hx hw=>⟨?_,k2 x hx⟩⟩;rw [k3];rcases k5 x hx hw with h5|h5
      ·exact (hun x h5 hw).1
      ·rw [h5];unfold sV at hrq;simp only [Bool.and_eq_true,decide_eq_true_eq] at hrq;show k.req.limit=0∨c.now<c.now+k.req.limit;omega
     ·rw [decide_eq_false h2] at he ⊢;simp only [cond_false] at he ⊢;by_cases h3:k.kind=3
      ·rw [decide_eq_true h3] at he ⊢;simp only [cond_true] at he ⊢;cases hw:(Wk.pc ⟨c,[]⟩ i).waiting with
       | false=>rw [hw] at he;simp at he
       | true =>
        simp only [Bool.not_true,cond_false];obtain ⟨k1,_,k3,k4,_⟩:=db hci hi hw;have hi2:i<(az ⟨c,[]⟩ i).c.procs.length:=by rw [k3.len];exact hi
        obtain ⟨n1,n2,_⟩:=gw k1 hi2 (by rw [bG hi2];simp [k4]);obtain ⟨q1,q2,q3⟩:=fW n1;have hk:=(k3.trans n2).trans q3;exact fin _ q1 q2 hk.kw hk.now
      ·rw [decide_eq_false h3] at he ⊢;simp only [cond_false] at he ⊢;by_cases h4:k.kind=4
       ·rw [decide_eq_true h4] at he ⊢;simp only [cond_true] at he ⊢;obtain ⟨q1,q2,hk,_⟩:=pU hci hi he;exact fin _ q1 q2 hk.kw hk.now
       ·rw [decide_eq_false h4] at he ⊢;simp only [cond_false] at he ⊢;by_cases h5:k.kind=5
        ·rw [decide_eq_true h5] at he ⊢;simp only [cond_true] at he ⊢;rcases Bool.eq_false_or_eq_true (Wk.pc ⟨c,[]⟩ i).waiting with hw|hw
         ·rw [cT hw] at he;simp at he
         ·rw [cF hw] at he ⊢;by_cases hs:(d8 (Wk.pc ⟨c,[]⟩ i).led k.n).2=0
          ·rw [decide_eq_true hs];simp only [Bool.not_true,cond_false];obtain ⟨hld,hse,hld2⟩:=Ej hs;rw [hse];have hpc:=bG (w:=⟨c,[]⟩) hi;have hinv:=hci.inv _ (List.getElem_mem hi);rw [←hpc] at hinv;obtain ⟨hrq,hsn,hrun⟩:=hinv.run hw;have hpv:PInv c.queues c.now { Wk.pc ⟨c,[]⟩ i with led:=⟨(Wk.pc ⟨c,[]⟩ i).led.entries,(Wk.pc ⟨c,[]⟩ i).led.saves++[⟨k.n,(Wk.pc ⟨c,[]⟩ i).led.entries.length⟩]⟩ } :=
            ⟨⟨hinv.stat.vp,hinv.stat.cost,hld2,hinv.stat.gen,hinv.stat.hf⟩,fun _=>⟨hrq,hsn,fun n hn=>(hrun n hn).led rfl rfl⟩,fun hf=>by
             have:(Wk.pc ⟨c,[]⟩ i).waiting=true:=hf;rw [hw] at this;cases this⟩
           have hci2:=hci.upd (c':=(Wk.setP ⟨c,[]⟩ i { Wk.pc ⟨c,[]⟩ i with led:=⟨(Wk.pc ⟨c,[]⟩ i).led.entries,(Wk.pc ⟨c,[]⟩ i).led.saves++[⟨k.n,(Wk.pc ⟨c,[]⟩ i).led.entries.length⟩]⟩ }).c) hi rfl rfl (by rw [hpc]) (TP.refl hci.tv _) hpv;have hi2:i<(Wk.setP ⟨c,[]⟩ i { Wk.pc ⟨c,[]⟩ i with led:=⟨(Wk.pc ⟨c,[]⟩ i).led.entries,(Wk.pc ⟨c,[]⟩ i).led.saves++[⟨k.n,(Wk.pc ⟨c,[]⟩ i).led.entries.length⟩]⟩ }).c.procs.length:=by
            show i<(c.procs.set i _).length;simpa using hi
           obtain ⟨n1,n2,_⟩:=gw hci2 hi2 (by rw [eM hi];exact hw);have hkw:KW c.procs (Wk.setP ⟨c,[]⟩ i { Wk.pc ⟨c,[]⟩ i with led:=⟨(Wk.pc ⟨c,[]⟩ i).led.entries,(Wk.pc ⟨c,[]⟩ i).led.saves++[⟨k.n,(Wk.pc ⟨c,[]⟩ i).led.entries.length⟩]⟩ }).c.procs:=KW.set hw;refine fin _ n1 (fun x hx=>?_) (hkw.trans n2.kw) n2.now;cases hxw:x.waiting with
           | false=>unfold dP;rw [hxw];rfl
           | true=>exact mP (hun x (hkw.trans n2.kw x hx hxw))
          ·rw [decide_eq_false hs] at he;simp only [Bool.not_false,cond_true] at he;exact absurd he hs
        ·rw [decide_eq_false h5] at he ⊢;simp only [cond_false] at he ⊢;by_cases h6:k.kind=6
         ·rw [decide_eq_true h6] at he ⊢;simp only [cond_true] at he ⊢;obtain ⟨q1,q2,hk,_⟩:=nL hci hi he;exact fin _ q1 q2 hk.kw hk.now
         ·rw [decide_eq_false h6] at he ⊢;simp only [cond_false] at he ⊢;cases h8:decide (k.kind=8) && (Wk.pc ⟨c,[]⟩ i).waiting with
          | true=>rw [h8] at he;simp at he
          | false =>
           simp only [cond_false];obtain ⟨q1,q2,q3,q4,_⟩:=ux (w:=⟨c,[]⟩) hci hi;exact fin _ q1 q2 q3 q4
theorem pY {c:Cs} {k:Cm} (he:(fO c k).2.2=0):cM c=true∧cM (fO c k).1=true:=by
 unfold fO at he ⊢;cases hc:cM c with
 | false=>rw [hc] at he;simp at he
 | true =>
  rw [hc] at he;simp only [Bool.not_true,cond_false] at he ⊢;by_cases h0:(oc ⟨c,[]⟩ k).2=0
  ·rw [decide_eq_true h0];exact ⟨trivial,Ib hc h0⟩
  ·rw [decide_eq_false h0] at he;simp only [Bool.not_false,cond_true] at he;exact absurd he h0
def g9 (n m:Int):Int:=bif decide (m<1) then 0 else bif decide (n.tmod m<0) then n.tmod m+m else n.tmod m
theorem lY {n m:Int} (h:1≤m):0≤g9 n m∧g9 n m<m:=by
 unfold g9;rw [decide_eq_false (by omega),cond_false];by_cases h2:n.tmod m<0
 ·rw [decide_eq_true h2,cond_true];have:=Int.lt_tmod_of_pos n (show 0<m by omega);omega
 ·rw [decide_eq_false h2,cond_false];have:=Int.tmod_lt_of_pos n (show 0<m by omega);omega
structure Tp where
 l:List Int
 at_:Nat
def Tp.v (t:Tp) (m:Int):Int:=bif decide (t.l.length≤t.at_) then 0 else g9 (t.l.getD t.at_ 0) m
def Tp.s (t:Tp):Tp:=bif decide (t.l.length≤t.at_) then t else ⟨t.l,t.at_+1⟩
theorem Tp.v_in (t:Tp) {m:Int} (h:1≤m):0≤t.v m∧t.v m<m:=by
 unfold Tp.v;cases decide (t.l.length≤t.at_) with
 | true=>rw [cond_true];omega
 | false=>exact lY h
theorem Tp.s_l (t:Tp):t.s.l=t.l:=by unfold Tp.s;cases decide (t.l.length≤t.at_) <;> rfl
theorem Tp.s_at (t:Tp) (h:t.at_≤t.l.length):t.s.at_≤t.s.l.length:=by
 rw [Tp.s_l];unfold Tp.s;by_cases h2:t.l.length≤t.at_
 ·rw [decide_eq_true h2];exact h
 ·rw [decide_eq_false h2];show t.at_+1≤_;omega
theorem Tp.s_le (t:Tp):t.at_≤t.s.at_:=by
 unfold Tp.s;cases decide (t.l.length≤t.at_) with
 | true=>exact Nat.le_refl _
 | false=>exact Nat.le_succ _
theorem Tp.s_lt (t:Tp) (h:t.at_<t.l.length):t.s.at_=t.at_+1:=by
 unfold Tp.s;rw [decide_eq_false (by omega)];rfl
def bg (n:Int):Pr:=⟨(g9 n 8).tmod 4,1,1+(g9 n 8).tdiv 4⟩
def nA:ByteArray:=⟨#[97]⟩
def nB:ByteArray:=⟨#[98]⟩
def nC:ByteArray:=⟨#[99]⟩
def nD:ByteArray:=⟨#[100]⟩
def nP:ByteArray:=⟨#[112]⟩
def nQ:ByteArray:=⟨#[113]⟩
def mQ (t:Tp):List Rs×Tp :=
 ([⟨nA,1,1,t.v 4⟩,⟨nB,1,1,t.s.v 4⟩,⟨nC,1,1,t.s.s.v 4⟩,⟨nD,1,1,t.s.s.s.v 4⟩,⟨nP,2,1+t.s.s.s.s.v 8,t.s.s.s.s.s.v 4⟩,⟨nQ,2,1+t.s.s.s.s.s.s.v 3,t.s.s.s.s.s.s.s.v 4⟩],t.s.s.s.s.s.s.s.s)
def y8 (n:Int):Int:=[5,5,3,4,2,1,3,5].getD (g9 n 8).toNat 0
def Ft (r:Rs) (n:Int):Am:=bif decide (r.kind=1) then ⟨y8 n,0⟩ else ⟨0,1+g9 n r.units⟩
def tj (first:Int):Nat→List Rs→List Tm
 | _,[]=>[]
 | i,r :: l=>⟨r.name,Ft r (first.fdiv (2 ^ (3*i)))⟩ :: tj first (i+1) l
def y9 (L:List Tm) (n:Int):Tm:=L.getD n.toNat ⟨⟨#[]⟩,Am.zero⟩
def iL (f:Tp→Ex×Tp):Nat→Tp→List Ex×Tp
 | 0,t=>([],t)
 | n+1,t=>((f t).1 :: (iL f n (f t).2).1,(iL f n (f t).2).2)
def eu (L:List Tm):Nat→Tp→Ex×Tp
 | 0,t=>(.mk 0 (y9 L (t.v L.length)) [],t.s)
 | d+1,t=>bif decide (t.v 4=0) then (.mk 0 (y9 L (t.s.v L.length)) [],t.s.s) else
  (.mk (1+t.s.s.v (1+t.s.v 3)) ⟨⟨#[]⟩,Am.zero⟩ (iL (eu L d) (1+t.s.v 3).toNat t.s.s.s).1,(iL (eu L d) (1+t.s.v 3).toNat t.s.s.s).2)
def lZ (t:Tp) (l:List Rs):Ex×Tp:=eu (tj (t.v 1048576) 0 l) 2 t.s
def xR (t:Tp) (l:List Rs):Rq×Tp :=
 bif decide (t.s.v 5=1) then (⟨(lZ t.s.s.s l).1,t.v 8,1+t.s.s.v 20⟩,(lZ t.s.s.s l).2) else (⟨(lZ t.s.s l).1,t.v 8,0⟩,(lZ t.s.s l).2)
def uy (t:Tp) (l:List Rs):Cm×Tp :=
 let n:=t.v 16
 let p:=bg (t.s.v 6)
 let u:=t.s.s
 bif decide (n=0) then (⟨1,p,Rq.zero,⟨#[]⟩,1+u.v 9⟩,u.s) else
 bif decide (n<9) then (⟨2,p,(xR u l).1,⟨#[]⟩,0⟩,(xR u l).2) else
 bif decide (n=9) then (⟨3,p,Rq.zero,⟨#[]⟩,0⟩,u) else
 bif decide (n=10) then (⟨4,p,Rq.zero,(l.getD (u.v l.length).toNat ⟨⟨#[]⟩,0,0,0⟩).name,0⟩,u.s) else
 bif decide (n=11) then (⟨5,p,Rq.zero,⟨#[]⟩,1+u.v 4⟩,u.s) else
 bif decide (n=12) then (⟨6,p,Rq.zero,⟨#[]⟩,u.v 5⟩,u.s) else
 bif decide (n=13) then (⟨7,p,Rq.zero,⟨#[]⟩,0⟩,u) else
 bif decide (n=14) then (⟨8,p,Rq.zero,⟨#[]⟩,0⟩,u) else (⟨9,p,Rq.zero,⟨#[]⟩,u.v 12⟩,u.s)
def wA (i:Int) (t:Tp):Cm:=⟨1,bg i,Rq.zero,⟨#[]⟩,1+t.v 9⟩
def pZ (cat:List Rs):Nat→Tp→List Cm
 | 0,_=>[]
 | n+1,t=>bif decide (t.at_<t.l.length) then (uy t cat).1 :: pZ cat n (uy t cat).2 else []
def jN (l:List Int):List Rs×List Cm :=
 let c:=mQ ⟨l,0⟩
 let t:=c.2
 (c.1,[wA 0 t,wA 1 t.s,wA 2 t.s.s,wA 3 t.s.s.s]++pZ c.1 l.length t.s.s.s.s)
def fp (r:Rs):Qu:=⟨r,[],[],[],0⟩
def uz:Cs→List Cm→Cs
 | c,[]=>c
 | c,k :: l=>uz (bif decide ((fO c k).2.2=0) then (fO c k).1 else c) l
theorem uA:∀(l:List Cm) (c:Cs),cM c=true→cM (uz c l)=true
 | [],_,h=>h
 | k :: l,c,h=>by
  show cM (uz (bif decide ((fO c k).2.2=0) then (fO c k).1 else c) l)=true;by_cases he:(fO c k).2.2=0
  ·rw [decide_eq_true he];exact uA l _ (pY he).2
  ·rw [decide_eq_false he];exact uA l c h
structure Adv (t t':Tp):Prop where
 l:t'.l=t.l
 le:t.at_≤t'.at_
 ok:t.at_≤t.l.length→t'.at_≤t'.l.length
theorem Adv.refl (t:Tp):Adv t t:=⟨rfl,Nat.le_refl _,id⟩
theorem Adv.trans {a b c:Tp} (h:Adv a b) (k:Adv b c):Adv a c:=⟨k.l.trans h.l,Nat.le_trans h.le k.le,fun e=>k.ok (h.ok e)⟩
theorem Adv.s (t:Tp):Adv t t.s:=⟨t.s_l,t.s_le,t.s_at⟩
theorem Adv.ss {t u:Tp} (h:Adv t u):Adv t u.s:=h.trans (Adv.s u)
theorem tk {f:Tp→Ex×Tp} (hf:∀t,Adv t (f t).2):∀(n:Nat) (t:Tp),Adv t (iL f n t).2
 | 0,t=>Adv.refl t
 | n+1,t=>(hf t).trans (tk hf n (f t).2)
theorem k9 (L:List Tm):∀(d:Nat) (t:Tp),Adv t (eu L d t).2
 | 0,t=>Adv.s t
 | d+1,t=>by
  unfold eu;cases decide (t.v 4=0) with
  | true=>exact (Adv.s t).ss
  | false=>exact (Adv.s t).ss.ss.trans (tk (k9 L d) _ _)
theorem tl (t:Tp) (l:List Rs):Adv t (lZ t l).2:=(Adv.s t).trans (k9 _ 2 _)
theorem CH (t:Tp) (l:List Rs):Adv t (xR t l).2:=by
 unfold xR;cases decide (t.s.v 5=1) with
 | true=>exact (Adv.s t).ss.ss.trans (tl _ _)
 | false=>exact (Adv.s t).ss.trans (tl _ _)
theorem CJ (t:Tp) (l:List Rs):Adv t.s (uy t l).2:=by
 have h:=Adv.s t.s;have h1:=h.ss;have h2:=h.trans (CH t.s.s l);unfold uy;dsimp only;generalize decide (t.v 16=0)=b0;generalize decide (t.v 16<9)=b1;generalize decide (t.v 16=9)=b2;generalize decide (t.v 16=10)=b3;generalize decide (t.v 16=11)=b4;generalize decide (t.v 16=12)=b5;generalize decide (t.v 16=13)=b6;generalize decide (t.v 16=14)=b7;cases b0
 case true=>exact h1
 cases b1
 case true=>exact h2
 cases b2
 case true=>exact h
 cases b3
 case true=>exact h1
 cases b4
 case true=>exact h1
 cases b5
 case true=>exact h1
 cases b6
 case true=>exact h
 cases b7
 case true=>exact h
 exact h1
section
variable {β:Type} (V:β→Value) (z:β) (n:ByteArray) (a:β)
def iM (l:List (ByteArray×β)):List (Value×Value):=l.map fun x=>(.string x.1,V x.2)
def lc:List (ByteArray×β)→β
 | []=>z
 | x :: l=>bif aZ x.1 n then x.2 else lc l
def dt:List (ByteArray×β)→List (ByteArray×β)
 | []=>[(n,a)]
 | x :: l=>bif aZ x.1 n then (x.1,a) :: l else x :: dt l
def CY:Nat→List (ByteArray×β)→Option (Nat×β)
 | _,[]=>none
 | j,x :: l=>bif aZ x.1 n then some (j,x.2) else CY (j+1) l
end
section
variable {P:Program} {β:Type} {V:β→Value} {z:β} {n:ByteArray} {a:β}
theorem GG (m n:ByteArray):(n == m)=aZ m n:=by
 rw [Bool.eq_iff_iff,aP,MapKept.bytes_beq];exact eq_comm
theorem uF:∀(l:List (ByteArray×β)) (i j:Nat),Instr.findNow .string (.string n) (dO i (iM V l)) j=some ((CY n j l).map fun x=>(x.1,V x.2))
 | [],_,_=>rfl
 | x :: l,i,j=>by
  have ih:=uF l (i+1) (j+1);show (match some (n == x.1) with|some true=>some (some (j,V x.2))|some false=>Instr.findNow .string (.string n) (dO (i+1) (iM V l)) (j+1)|none=>none)=_;rw [GG,CY];cases aZ x.1 n with
  | true=>rfl
  | false=>exact ih
theorem CZ:∀(l:List (ByteArray×β)) (j:Nat),lc z n l=match CY n j l with|some x=>x.2|none=>z
 | [],_=>rfl
 | x :: l,j=>by
  have ih:=CZ l (j+1);unfold lc CY;cases aZ x.1 n with
  | true=>rfl
  | false=>exact ih
theorem nR:∀(l:List (ByteArray×β)) (j:Nat),CY n j l=none→dt n a l=l++[(n,a)]
 | [],_,_=>rfl
 | x :: l,j,h=>by
  unfold CY at h;unfold dt;cases hx:aZ x.1 n with
  | true=>rw [hx] at h;cases h
  | false =>
   rw [hx] at h;rw [cond_false,nR l (j+1) h];rfl
theorem wE:∀(l m:List (Value×Value)) (i:Nat),dO i (l++m)=dO i l++dO (i+l.length) m
 | [],_,_=>rfl
 | x :: l,m,i=>by
  show _ :: dO (i+1) (l++m)=_ :: (dO (i+1) l++_);rw [wE l m (i+1),List.length_cons,show i+1+l.length=i+(l.length+1) by omega]
theorem nS:∀(l:List (ByteArray×β)) (i j k:Nat) (b:β),CY n j l=some (k,b)→j≤k∧(dO i (iM V l))[k-j]? = some ⟨.string n,V b,i+(k-j)⟩∧(dO i (iM V l)).set (k-j) ⟨.string n,V a,i+(k-j)⟩=dO i (iM V (dt n a l))∧(dt n a l).length=l.length
 | [],_,_,_,_,h=>by cases h
 | x :: l,i,j,k,b,h=>by
  unfold CY at h;unfold dt;cases hx:aZ x.1 n with
  | true =>
   rw [hx] at h;simp only [cond_true,Option.some.injEq,Prod.mk.injEq] at h;obtain ⟨rfl,rfl⟩:=h;obtain rfl:=aP.1 hx;rw [Nat.sub_self];exact ⟨Nat.le_refl _,rfl,rfl,rfl⟩
  | false =>
   rw [hx] at h;obtain ⟨h1,h2,h3,h4⟩:=nS l (i+1) (j+1) k b h;have e:k-j=(k-(j+1))+1:=by omega
   rw [cond_false,e];refine ⟨by omega,?_,?_,?_⟩
   ·show (dO (i+1) (iM V l))[k-(j+1)]? = _;rw [h2,show i+1+(k-(j+1))=i+(k-(j+1)+1) by omega]
   ·show (⟨.string x.1,V x.2,i⟩:MapEntry) :: (dO (i+1) (iM V l)).set (k-(j+1)) _=_ :: dO (i+1) (iM V (dt n a l));rw [←h3,show i+1+(k-(j+1))=i+(k-(j+1)+1) by omega]
   ·simp [h4]
variable {w:World} {g t K E:Nat} {l:List (ByteArray×β)}
theorem C0 (ht:P.underlying t=some (.map K E)) (hK:P.underlying K=some .string) (hz:(zeroValue E).run P w = .ok (V z) w) (hb:w.heap[g]? = some (i7 (iM V l))):(Instr.lookup t (.map (some g)) (.string n) false).run P w = .ok (V (lc z n l)) w:=by
 have h1:=uF (V:=V) (n:=n) l 0 0;have hk:MapKept.IsKey .string (.string n):=by simp [MapKept.IsKey]
 rw [CZ l 0];cases hf:CY n 0 l with
 | none =>
  rw [hf] at h1;simp [Instr.lookup,run_underlying ht,MapKept.run_getObj_map hb,MapKept.run_checkKey hK hk,MapKept.run_findKey hK h1,hz,Result.andThen]
 | some x =>
  rw [hf] at h1;simp [Instr.lookup,run_underlying ht,MapKept.run_getObj_map hb,MapKept.run_checkKey hK hk,MapKept.run_findKey hK h1,Result.andThen]
theorem C4 (ht:P.underlying t=some (.map K E)) (hK:P.underlying K=some .string) (hb:w.heap[g]? = some (i7 (iM V l))):(Instr.mapUpdate t (.map (some g)) (.string n) (V a)).run P w = .ok () { w with heap:=w.heap.setIfInBounds g (i7 (iM V (dt n a l))) }:=by
 have h1:=uF (V:=V) (n:=n) l 0 0;have hk:MapKept.IsKey .string (.string n):=by simp [MapKept.IsKey]
 cases hf:CY n 0 l with
 | none =>
  rw [hf] at h1;have e:i7 (iM V (dt n a l)) = .map ((dO 0 (iM V l)).toArray.push ⟨.string n,V a,(iM V l).length⟩) ((iM V l).length+1):=by
   rw [nR l 0 hf];unfold i7 iM;rw [List.map_append,wE];simp [dO]
  rw [e];simp [Instr.mapUpdate,run_underlying ht,MapKept.run_getObj_map hb,MapKept.run_checkKey hK hk,MapKept.run_findKey hK h1,MapKept.run_setObj_map _ hb,Result.andThen]
 | some x =>
  obtain ⟨k,b⟩:=x;rw [hf] at h1;obtain ⟨_,h2,h3,h4⟩:=nS (V:=V) (a:=a) l 0 0 k b hf;simp only [Nat.sub_zero,Nat.zero_add] at h2 h3;have e:i7 (iM V (dt n a l)) = .map ((dO 0 (iM V l)).toArray.modify k fun e=>{ e with key:=.string n,val:=V a }) (iM V l).length:=by
   unfold i7;rw [←h3];have hl:(iM V (dt n a l)).length=(iM V l).length:=by simp [iM,h4]
   rw [hl];congr 1
   apply Array.ext'
   rw [Array.toList_modify];apply List.ext_getElem?
   intro j;rw [List.getElem?_modify,List.getElem?_set];by_cases hkj:k=j
   ·subst hkj;have hlt:=(List.getElem?_eq_some_iff.1 h2).1;simp only [if_true,h2,Option.map_eq_map,Option.map_some];rw [if_pos hlt]
   ·simp [hkj]
  rw [e];simp [Instr.mapUpdate,run_underlying ht,MapKept.run_getObj_map hb,MapKept.run_checkKey hK hk,MapKept.run_findKey hK h1,h2,MapKept.run_keyThatStays hk,MapKept.run_setObj_map _ hb,Result.andThen]
end
section
variable {P:Program} {o:Oper} {s:Mst} {β:Type} {V:β→Value} {z:β} {n:ByteArray} {a:β} {l:List (ByteArray×β)}
theorem tq {t k:Nat} (ho:o.op = .makeMap t none) (hdk:o.dst=some k):LOp P o s [] ⟨.c (.own k),[(k,some (.mp []))],[k]⟩:=by
 intro c st ρ a w hr h1 h2 h3 h4;have hfk:st.f k=true:=h3 k (by simp [aD]);have hkk:∀k':Nat,ax [(k,some (Box.mp []))] k'=true→k'=k:=fun k' h=>by
  simp only [ax,Bool.or_false] at h;exact (Nat.eq_of_beq_eq_true h).symm
 refine Oper.wp_value (v:=.map (some w.heap.size)) (w':=w.alloc (.map #[] 0)) ?_ ⟨upd ρ k (.map (some w.heap.size)),hr.app (e:=⟨.c (.own k),[(k,some (.mp []))],[k]⟩) h4 (fun k' h=>?_) (fun k' h=>?_) (fun k' h=>.inl ?_) (Frx.alloc _ _ _) (fun k' bx g' h _ hg'=>?_) (fun k1 k2 _ _ _ h h' _ _ _ _=>?_) (fun k' h=>.inl ?_) (fun k1 k2 bx h hp hx=>?_) (fun k2 bx h hp=>?_) ?_⟩
 ·unfold execOp;rw [ho];simp [Instr.makeMap,Result.andThen]
 ·have:k'=k:=by simp [aD] at h;exact h.symm
  subst this;exact ⟨hfk,by simp [ax]⟩
 ·exact de (by simpa [aD] using h)
 ·rw [hkk k' h];simp [aD]
 ·rw [hkk k' h,aI] at hg';injection hg' with hg';subst hg';exact ⟨by simp,.inl (Nat.le_refl _)⟩
 ·rw [hkk k1 h,hkk k2 h']
 ·have:k'=k:=by simp [TV.has,V0.has,D.has] at h;exact h.symm
  subst this;simp [aD]
 ·rw [hkk k2 h] at hp;simp only [hput,Nat.beq_refl,cond_true,Option.some.injEq] at hp;subst hp;simp [Box.has] at hx
 ·rw [hkk k2 h] at hp ⊢;simp only [hput,Nat.beq_refl,cond_true,Option.some.injEq] at hp;subst hp;rw [aI];exact ⟨_,rfl,(MapKept.heap_alloc w _).1⟩
 ·exact (aI _ _ _).symm
theorem C5 {t K E k:Nat} {x y:Operand} {d:TV} (ht:P.underlying t=some (.map K E)) (hK:P.underlying K=some .string) (hz:∀w,(zeroValue E).run P w = .ok (V z) w) (ho:o.op = .lookup t x y false) (hx:s.ev x = .c (.own k)) (hk:s.h k=some (.mp (iM V l))) (hy:s.ev y = .c (.sc (.string n)))
  (hd:∀w F ρ,d.rep w F ρ (V (lc z n l))) (hn:∀j,d.has j=false):LOp P o s [k] ⟨d,[],[]⟩ :=
 bi fun c st ρ a w hr h1 h2=>by
  have e1:=h1 x (by simp [ho,Op.operands]);have e2:=h1 y (by simp [ho,Op.operands]);have hv1:=hr.ev x;have hv2:=hr.ev y;rw [e1,hx] at hv1;rw [e2,hy] at hv2;have hv1:a.eval x=ρ k:=hv1;have hv2:a.eval y = .string n:=hv2;obtain ⟨g,hg,hb⟩:=hr.hp k _ ((h2 k (by simp [aD])).trans hk);refine ⟨V (lc z n l),?_,hd _ _ _,fun j hj=>by rw [hn j] at hj;cases hj⟩;unfold execOp;rw [ho];simp only [hv1,hv2,hg,Sem.run_bind,C0 ht hK (hz w) hb,Result.andThen_ok,Sem.run_pure]
theorem C6 {t K E k:Nat} {x y q:Operand} (ht:P.underlying t=some (.map K E)) (hK:P.underlying K=some .string) (ho:o.op = .mapUpdate t x y q) (hx:s.ev x = .c (.own k)) (hk:s.h k=some (.mp (iM V l))) (hy:s.ev y = .c (.sc (.string n)))
  (hq:∀w F ρ v,(s.ev q).rep w F ρ v→v=V a):LOp P o s [k] ⟨.c .any,[(k,some (.mp (iM V (dt n a l))))],[]⟩:=by
 intro c st ρ ac w hr h1 h2 h3 h4;have e1:=h1 x (by simp [ho,Op.operands]);have e2:=h1 y (by simp [ho,Op.operands]);have e3:=h1 q (by simp [ho,Op.operands]);have hv1:=hr.ev x;have hv2:=hr.ev y;have hv3:=hr.ev q;rw [e1,hx] at hv1;rw [e2,hy] at hv2;rw [e3] at hv3;have hv1:ac.eval x=ρ k:=hv1;have hv2:ac.eval y = .string n:=hv2;have hv3:=hq _ _ _ _ hv3;have hk':=(h2 k (by simp [aD])).trans hk;obtain ⟨g,hg,hb⟩:=hr.hp k _ hk';have hkb:kb (ρ k)=some g:=by rw [hg];rfl
 have hkk:∀k':Nat,ax [(k,some (Box.mp (iM V (dt n a l))))] k'=true→k'=k:=fun k' h=>by
  simp only [ax,Bool.or_false] at h;exact (Nat.eq_of_beq_eq_true h).symm
 have hset:=MapKept.heap_set (o':=i7 (iM V (dt n a l))) hb;have hlt:g<w.heap.size:=(Array.getElem?_eq_some_iff.1 hb).1;refine Oper.wp_skip (w':={ w with heap:=w.heap.setIfInBounds g (i7 (iM V (dt n a l))) }) ?_ ⟨ρ,hr.app (e:=⟨.c .any,[(k,some (.mp (iM V (dt n a l))))],[]⟩) h4 (fun k h=>by simp [aD] at h) (fun _ _=>rfl) (fun k' h=>.inr (by rw [hkk k' h];exact hr.nfh hk')) ⟨rfl,rfl,rfl,by simp,fun b hlt hn=>hset.2 b fun e=>hn ⟨k,_,by simp [ax],hk',by rw [hkb,e]⟩⟩ ?_ ?_ (fun k h=>by simp [TV.has,V0.has,D.has] at h) ?_ ?_ trivial⟩
 ·unfold execOp;rw [ho];simp only [hv1,hv2,hv3,hg,Sem.run_bind,C4 ht hK hb,Result.andThen_ok,Sem.run_pure]
 ·intro k' bx g' h _ hg';rw [hkk k' h,hkb] at hg';injection hg' with hg';subst hg';exact ⟨by simpa using hlt,.inr ⟨k,_,by simp [ax],hk',hkb⟩⟩
 ·intro k1 k2 _ _ _ h h' _ _ _ _;rw [hkk k1 h,hkk k2 h']
 ·intro k1 k2 bx h hp hx;rw [hkk k2 h] at hp;simp only [hput,Nat.beq_refl,cond_true,Option.some.injEq] at hp;subst hp;simp [Box.has] at hx
 ·intro k2 bx h hp;rw [hkk k2 h] at hp ⊢;simp only [hput,Nat.beq_refl,cond_true,Option.some.injEq] at hp;subst hp;exact ⟨g,hg,hset.1⟩
theorem tt {t K E k:Nat} {x:Operand} {L:List (Value×Value)} (ht:P.underlying t=some (.map K E)) (ho:o.op = .call { callee:=.builtin .len,args:=#[x],argTypes:=#[t] }) (hx:s.ev x = .c (.own k)) (hk:s.h k=some (.mp L)):LOp P o s [k] ⟨.i L.length,[],[]⟩ :=
 bi fun c st ρ a w hr h1 h2=>by
  have e1:=h1 x (by simp [ho,Op.operands,Call.operands]);have hv1:=hr.ev x;rw [e1,hx] at hv1;have hv1:a.eval x=ρ k:=hv1;obtain ⟨g,hg,hb⟩:=hr.hp k _ ((h2 k (by simp [aD])).trans hk);refine ⟨.int .i64 L.length,?_,rfl,fun k hk=>by simp [TV.has,V0.has,D.has] at hk⟩;have hl:∀(l:List (Value×Value)) (i:Nat),(dO i l).length=l.length:=by
   intro l;induction l with
   | nil=>intro _;rfl
   | cons x l ih=>intro i;show (dO (i+1) l).length+1=_;rw [ih];rfl
  unfold execOp;rw [ho];have hrun:(Builtin.len_ #[t] o.type #[.map (some g)]).run P w = .ok (.int .i64 L.length) w:=by
   simp [Builtin.len_,run_underlying ht,MapKept.run_getObj_map hb,Result.andThen,hl];rfl
  simp only [resolve,invoke,builtin,Sem.run_bind,Sem.run_pure,Result.andThen_ok,List.map_toArray,List.map_cons,List.map_nil,hv1,hg,hrun]
end
def GH (x:Am):Value:=.agg #[.int .i64 x.mode,.int .i64 x.units]
abbrev uG (l:List (ByteArray×Am)):List (Value×Value):=iM GH l
abbrev mR (n:ByteArray) (l:List (ByteArray×Am)):Am:=lc ⟨0,0⟩ n l
theorem jO {P:Program} {o:Oper} {s:Mst} {t k:Nat} (K E:Nat) {x y:Operand} {n:ByteArray} {l:List (ByteArray×Am)} (ht:P.underlying t=some (.map K E)) (hK:P.underlying K=some .string) (hz:∀w,(zeroValue E).run P w = .ok (GH ⟨0,0⟩) w) (ho:o.op = .lookup t x y false) (hx:s.ev x = .c (.own k)) (hk:s.h k=some (.mp (uG l))) (hy:s.ev y = .c (.sc (.string n))) {b:Am} (hb:mR n l=b):LOp P o s [k] ⟨.v b.a,[],[]⟩:=by
 subst hb;exact C5 (V:=GH) (z:=⟨0,0⟩) ht hK hz ho hx hk hy (fun _ _ _=>⟨_,rfl,rfl,rfl,trivial⟩) fun _=>rfl
theorem mS {P:Program} {o:Oper} {s:Mst} {t k:Nat} (K E:Nat) {x y q:Operand} {n:ByteArray} {l:List (ByteArray×Am)} {b:Am} (ht:P.underlying t=some (.map K E)) (hK:P.underlying K=some .string) (ho:o.op = .mapUpdate t x y q) (hx:s.ev x = .c (.own k)) (hk:s.h k=some (.mp (uG l))) (hy:s.ev y = .c (.sc (.string n))) (hq:s.ev q = .v b.a) {m:List (ByteArray×Am)} (hm:dt n b l=m):LOp P o s [k] ⟨.c .any,[(k,some (.mp (uG m)))],[]⟩:=by
 subst hm;exact C6 (V:=GH) ht hK ho hx hk hy fun w F ρ v hv=>by
  rw [hq] at hv;obtain ⟨cs,e,h⟩:=hv;rw [e]
  match cs,h with
  | [_,_],⟨rfl,rfl,_⟩=>rfl
section
variable {β:Type} {z a:β} {n:ByteArray}
theorem wF (m:ByteArray):∀l:List (ByteArray×β),lc z m (dt n a l)=bif aZ n m then a else lc z m l
 | []=>rfl
 | x :: l=>by
  have ih:=wF m l;unfold dt;cases hx:aZ x.1 n with
  | true =>
   obtain rfl:=aP.1 hx;show (bif aZ x.1 m then a else lc z m l)=bif aZ x.1 m then a else bif aZ x.1 m then x.2 else lc z m l;cases aZ x.1 m <;> rfl
  | false =>
   show (bif aZ x.1 m then x.2 else lc z m (dt n a l))=bif aZ n m then a else bif aZ x.1 m then x.2 else lc z m l;rw [ih];cases h1:aZ x.1 m with
   | false=>rfl
   | true =>
    cases h2:aZ n m with
    | false=>rfl
    | true =>
     obtain rfl:=aP.1 h1;obtain rfl:=aP.1 h2;rw [aP.2 rfl] at hx;cases hx
theorem uH:∀l:List (ByteArray×β),(dt n a l).length=bif es n (l.map (·.1)) then l.length else l.length+1
 | []=>rfl
 | x :: l=>by
  have ih:=uH l;unfold dt;show _=bif (aZ x.1 n || es n (l.map (·.1))) then _ else _;cases hx:aZ x.1 n with
  | true=>rfl
  | false =>
   rw [Bool.false_or,cond_false,List.length_cons,ih,List.length_cons];cases es n (l.map (·.1)) <;> rfl
theorem uI (m:ByteArray):∀l:List (ByteArray×β),es m ((dt n a l).map (·.1))=(aZ n m || es m (l.map (·.1)))
 | []=>rfl
 | x :: l=>by
  have ih:=uI m l;unfold dt;cases hx:aZ x.1 n with
  | true =>
   obtain rfl:=aP.1 hx;show (aZ x.1 m || es m (l.map (·.1)))=(aZ x.1 m || (aZ x.1 m || es m (l.map (·.1))));cases aZ x.1 m <;> rfl
  | false =>
   show (aZ x.1 m || es m ((dt n a l).map (·.1)))=(aZ n m || (aZ x.1 m || es m (l.map (·.1))));rw [ih];cases aZ x.1 m <;> cases aZ n m <;> rfl
end
def dA:List (ByteArray×Am)→List En→List (ByteArray×Am)
 | m,[]=>m
 | m,e :: l=>dA (dt e.name e.after m) l
def dR (l:List En):List (ByteArray×Am):=dA [] l
theorem ld:∀(l k:List En) (m:List (ByteArray×Am)),dA m (l++k)=dA (dA m l) k
 | [],_,_=>rfl
 | e :: l,k,m=>ld l k _
theorem AI (l:List En) (e:En):dR (l++[e])=dt e.name e.after (dR l):=by
 unfold dR;rw [ld];rfl
theorem qd (n:ByteArray):∀(l:List En) (m:List (ByteArray×Am)),mR n (dA m l)=di n (mR n m) l
 | [],_=>rfl
 | e :: l,m=>by
  show mR n (dA (dt e.name e.after m) l)=di n (bif aZ e.name n then e.after else mR n m) l;rw [qd n l,show mR n (dt e.name e.after m)=_ from wF n m]
theorem fY (l:List En) (n:ByteArray):mR n (dR l)=ay l n:=qd n l []
theorem C7 (n m:ByteArray) (l:List ByteArray):es m (ku n l)=(aZ n m || es m l):=by
 rw [Bool.eq_iff_iff,fg,lG,Bool.or_eq_true,aP,fg];exact or_congr_left eq_comm
theorem nT:∀(l:List En) (m:List (ByteArray×Am)) (acc:List ByteArray),m.length=acc.length→(∀x,es x (m.map (·.1))=es x acc)→(dA m l).length=(dD acc l).length
 | [],_,_,h,_=>h
 | e :: l,m,acc,h,hh=>by
  show (dA (dt e.name e.after m) l).length=(dD (bif es e.name acc then acc else ku e.name acc) l).length;refine nT l _ _ ?_ fun x=>?_
  ·rw [uH,hh,h];cases es e.name acc with
   | true=>rfl
   | false=>rw [cond_false,cond_false,pI]
  ·rw [uI,hh];cases ha:es e.name acc with
   | false=>rw [cond_false,C7]
   | true =>
    rw [cond_true];cases he:aZ e.name x with
    | false=>rfl
    | true=>rw [←aP.1 he,ha];rfl
theorem me (l:List En):(dR l).length=(bS l).length:=nT l [] [] rfl fun _=>rfl
theorem tu:∀(l:List En) (m:List (ByteArray×Am)),m.length≤(dA m l).length
 | [],_=>Nat.le_refl _
 | e :: l,m=>by
  refine Nat.le_trans ?_ (tu l (dt e.name e.after m));rw [uH];cases es e.name (m.map (·.1)) <;> simp
theorem AJ (l k:List En):(dR l).length≤(dR (l++k)).length:=by
 unfold dR;rw [ld];exact tu k _
theorem nU (n:Int):∀(l:List Sv) (k i:Nat) (h:i<l.length),l[i].label=n→(aQ n k l=((k+i:Nat):Int)↔aQ n k (l.take i)<0)
 | s :: l,k,0,_,hn=>by
  have hn:s.label=n:=hn;show (bif decide (s.label=n) then (k:Int) else _)=_↔_;rw [decide_eq_true hn];simp [aQ]
 | s :: l,k,i+1,h,hn=>by
  have ih:=nU n l (k+1) i (by simpa using h) (by simpa using hn);show (bif decide (s.label=n) then (k:Int) else aQ n (k+1) l)=_↔(bif decide (s.label=n) then (k:Int) else aQ n (k+1) (l.take i))<0;by_cases hs:s.label=n
  ·rw [decide_eq_true hs,cond_true,cond_true];constructor <;> intro h <;> omega
  ·rw [decide_eq_false hs,cond_false,cond_false,←ih,show k+1+i=k+(i+1) by omega]
def GI (all:List Sv) (n:Int):Nat→Int→List Sv→Bool
 | _,_,[]=>true
 | k,at_,s :: l=>decide (1≤s.label) && decide (s.label≤99) && decide (aQ s.label 0 (all.take k)<0) && decide (at_≤s.at_) && decide (s.at_≤n) && GI all n (k+1) s.at_ l
theorem C8 (all:List Sv) (n:Int):∀(l:List Sv) (k:Nat) (at_:Int),all.drop k=l→0≤at_→GI all n k at_ l=uf all n k at_ l
 | [],_,_,_,_=>rfl
 | s :: l,k,at_,h,h0=>by
  have hk:k<all.length:=by
   have:=congrArg List.length h;simp at this;omega
  have hs:all[k]=s∧all.drop (k+1)=l:=by
   rw [List.drop_eq_getElem_cons hk] at h;injection h with h1 h2;exact ⟨h1,h2⟩
  have hf:=nU s.label all 0 k hk (by rw [hs.1]);rw [Nat.zero_add] at hf;show (decide (1≤s.label) && decide (s.label≤99) && decide (aQ s.label 0 (all.take k)<0) && decide (at_≤s.at_) && decide (s.at_≤n) && GI all n (k+1) s.at_ l)=(decide (1≤s.label) && decide (s.label≤99) && decide (0≤s.at_) && decide (s.at_≤n) && decide (at_≤s.at_) && decide (aQ s.label 0 all=(k:Int)) && uf all n (k+1) s.at_ l);by_cases ha:at_≤s.at_
  ·rw [C8 all n l (k+1) s.at_ hs.2 (by omega),decide_eq_decide.2 hf.symm,decide_eq_true ha,decide_eq_true (show 0≤s.at_ by omega)];cases decide (1≤s.label) <;> cases decide (s.label≤99) <;> cases decide (s.at_≤n) <;> cases decide (aQ s.label 0 all=(k:Int)) <;> simp
  ·rw [decide_eq_false ha];simp
theorem wG {β:Type} (n:ByteArray) (a:β):∀l:List (ByteArray×β),(dt n a l).map (·.1)=bif es n (l.map (·.1)) then l.map (·.1) else l.map (·.1)++[n]
 | []=>rfl
 | x :: l=>by
  have ih:=wG n a l;unfold dt;show _=bif (aZ x.1 n || es n (l.map (·.1))) then x.1 :: l.map (·.1) else x.1 :: l.map (·.1)++[n];cases aZ x.1 n with
  | true=>rfl
  | false =>
   show x.1 :: (dt n a l).map (·.1)=_;rw [ih,Bool.false_or];cases es n (l.map (·.1)) <;> rfl
theorem fR:∀(l:List En) (m:List (ByteArray×Am)),(m.map (·.1)).Nodup→((dA m l).map (·.1)).Nodup
 | [],_,h=>h
 | e :: l,m,h=>by
  refine fR l (dt e.name e.after m) ?_;rw [wG];cases hh:es e.name (m.map (·.1)) with
  | true=>exact h
  | false =>
   rw [cond_false];refine List.nodup_append.2 ⟨h,by simp,fun a ha b hb=>?_⟩;rw [List.mem_singleton] at hb;subst hb;intro e9;subst e9;rw [fg.2 ha] at hh;cases hh
theorem iD {x:ByteArray}:∀(l:List En) (m:List (ByteArray×Am)),x∈(dA m l).map (·.1)↔x∈m.map (·.1)∨∃e∈l,e.name=x
 | [],m=>by simp [dA]
 | e :: l,m=>by
  show x∈(dA (dt e.name e.after m) l).map (·.1)↔_;rw [iD l,←fg,uI,Bool.or_eq_true,aP,fg];constructor
  ·rintro ((h|h)|⟨f,h1,h2⟩)
   ·exact .inr ⟨e,by simp,h⟩
   ·exact .inl h
   ·exact .inr ⟨f,by simp [h1],h2⟩
  ·rintro (h|⟨f,h1,h2⟩)
   ·exact .inl (.inr h)
   ·rcases List.mem_cons.1 h1 with rfl|h1
    ·exact .inl (.inl h2)
    ·exact .inr ⟨f,h1,h2⟩
theorem qh:∀{l m:List ByteArray},nX l→nX m→(∀x,x∈l↔x∈m)→l=m
 | [],[],_,_,_=>rfl
 | [],b :: m,_,_,h=>absurd ((h b).2 (by simp)) (by simp)
 | a :: l,[],_,_,h=>absurd ((h a).1 (by simp)) (by simp)
 | a :: l,b :: m,h1,h2,h=>by
  obtain ⟨p1,q1⟩:=List.pairwise_cons.1 h1;obtain ⟨p2,q2⟩:=List.pairwise_cons.1 h2;have e:a=b:=by
   rcases List.mem_cons.1 ((h a).1 (by simp)) with e|ha
   ·exact e
   ·rcases List.mem_cons.1 ((h b).2 (by simp)) with e|hb
    ·exact e.symm
    ·have:=fU (p1 b hb) (p2 a ha);rw [dH] at this;cases this
  subst e;rw [qh q1 q2 fun x=>?_];constructor
  ·intro hx;rcases List.mem_cons.1 ((h x).1 (by simp [hx])) with e|hm
   ·subst e;have:=p1 x hx;rw [dH] at this;cases this
   ·exact hm
  ·intro hx;rcases List.mem_cons.1 ((h x).2 (by simp [hx])) with e|hm
   ·subst e;have:=p2 x hx;rw [dH] at this;cases this
   ·exact hm
def gx (m:List (ByteArray×Am)) (seen:List Nat):List ByteArray:=(seen.filterMap fun j=>m[j]?).map (·.1)
theorem AM {m:List (ByteArray×Am)} {seen:List Nat} {j:Nat} {x:ByteArray×Am} (h:m[j]? = some x):gx m (seen++[j])=gx m seen++[x.1]:=by
 unfold gx;rw [List.filterMap_append,List.map_append];simp [h]
theorem ib {n:Nat} {seen:List Nat} (hn:seen.Nodup) (hs:∀j∈seen,j<n):seen.length≤n:=by
 have hp:seen.Perm ((List.range n).filter fun j=>decide (j∈seen)):=(List.perm_ext_iff_of_nodup hn (List.nodup_range.filter _)).2 fun j=>by
  rw [List.mem_filter,List.mem_range,decide_eq_true_eq];exact ⟨fun h=>⟨hs j h,h⟩,fun h=>h.2⟩
 have h:=List.length_filter_le (fun j=>decide (j∈seen)) (List.range n);rw [←hp.length_eq] at h;simpa using h
theorem wH {α β:Type} {f g:α→Option β}:∀{l:List α},(∀x∈l,f x=g x)→l.filterMap f=l.filterMap g
 | [],_=>rfl
 | x :: l,h=>by
  rw [List.filterMap_cons,List.filterMap_cons,h x (by simp),wH fun y hy=>h y (by simp [hy])]
theorem wI {m:List (ByteArray×Am)} {seen:List Nat} (hn:seen.Nodup) (hs:∀j∈seen,j<m.length) (ha:∀j,j<m.length→j∈seen):(gx m seen).Perm (m.map (·.1)):=by
 have hp:seen.Perm (List.range m.length):=(List.perm_ext_iff_of_nodup hn List.nodup_range).2 fun j=>by
  rw [List.mem_range];exact ⟨hs j,ha j⟩
 have h1:=(hp.filterMap fun j=>m[j]?).map (·.1);have h2:(List.range m.length).filterMap (fun j=>m[j]?)=m:=by
  have e:(List.range m.length).filterMap (fun j=>m[j]?)=(List.range m.length).filterMap (fun j=>some (m.getD j (.empty,⟨0,0⟩))):=by
   refine wH fun j hj=>?_;have hj:=List.mem_range.1 hj;rw [List.getD_eq_getElem?_getD,List.getElem?_eq_getElem hj,Option.getD_some]
  rw [e,show (fun j=>some (m.getD j (.empty,⟨0,0⟩)))=some ∘ (fun j=>m.getD j (.empty,⟨0,0⟩)) from rfl,List.filterMap_eq_map];apply List.ext_getElem
  ·simp
  ·intro i h1 h2;simp [List.getD_eq_getElem?_getD,List.getElem?_eq_getElem h2]
 unfold gx
 rwa [h2] at h1
section
variable {P:Program} {o:Oper} {s:Mst}
theorem Ds {src dst:TypeId} {x:Operand} {k k2:IntKind} {n m:Int} (ho:o.op = .convert src dst x) (hs:P.underlying src=some (.int k)) (hd:P.underlying dst=some (.int k2)) (hx:s.ev x = .c (.sc (.int k n))) (h:k2.wrap n=m):LOp P o s [] ⟨.c (.sc (.int k2 m)),[],[]⟩ :=
 yA (by rw [ho];rfl) hx fun ev w hx=>by simp [execOp,ho,hx,convert,run_underlying hs,run_underlying hd,Conv.intToInt,h]
theorem Fe {t t':TypeId} {x y:Operand} {kd k2:IntKind} {a b c:Int} (ho:o.op = .binOp .shr t x y t') (hx:s.ev x = .c (.sc (.int kd a))) (hy:s.ev y = .c (.sc (.int k2 b))) (h0:0≤b) (hb:b.toNat≤kd.bits) (h:a.fdiv (2 ^ b.toNat)=c):LOp P o s [] ⟨.c (.sc (.int kd c)),[],[]⟩ :=
 fM (by rw [ho];rfl) hx hy fun ev w hx hy=>by
  have:¬b<0:=by omega
  simp [execOp,ho,hx,hy,eqGuard,binOp,Op.shift,this,Nat.min_eq_left hb,h]
end
instance:Dp ov:=eb _ _ _ _ _
instance:ST prog ov 22 3 8:=⟨ElTB.mk' underlying22 (.int .i64 0) 1 8 (by kernel_rfl) rfl rfl⟩
theorem Iu (n m:Int) (hm:m≤1048576):FSpec prog 16 [uu n,uu m] [] [] (.i (g9 n m)) []:=by
 refine aT func16 ?_;by_cases h1:m<1
 ·have e:g9 n m=0:=by unfold g9;rw [decide_eq_true h1];rfl
  rw [e];repeat' (first|refine af ?_ ?_|refine ae ?_|exact ah|refine ab fun hb=>?_|exact bB|fail)
 ·have k1:n.tmod m<m:=Int.tmod_lt_of_pos n (by omega);have k2 : -m<n.tmod m:=Int.lt_tmod_of_pos n (by omega);obtain ⟨r,hr⟩:∃r,n.tmod m=r:=⟨_,rfl⟩;have e:g9 n m=bif decide (r<0) then r+m else r:=by unfold g9;rw [decide_eq_false h1,hr];rfl
  rw [e];rw [hr] at k1 k2;by_cases h2:r<0
  ·rw [decide_eq_true h2];repeat' (first|refine af ?_ ?_|(refine aa 10 rfl ?_;refine sx (tX rfl rfl rfl (by omega) hr) ?_)|refine ae ?_|exact ah|refine ab fun hb=>?_|exact bB|fail)
  ·rw [decide_eq_false h2];repeat' (first|refine af ?_ ?_|(refine aa 10 rfl ?_;refine sx (tX rfl rfl rfl (by omega) hr) ?_)|refine ae ?_|exact ah|refine ab fun hb=>?_|exact bB|fail)
theorem zy (n m:Int) (hm:m≤1048576) {r:Int} (h:g9 n m=r):FSpec prog 16 [uu n,uu m] [] [] (.i r) []:=h▸Iu n m hm
def G3 (t:Tp):List D:=[.sl ov t.l,.sc (.int .i64 t.at_)]
def HT (t:Tp):List (Nat×Box):=[(0,.box 82 (G3 t))]
def FG (t:Tp):List (Nat×Option Box):=[(0,some (.box 82 (G3 t)))]
structure TOk (t:Tp):Prop where
 le:t.at_≤t.l.length
 len:t.l.length≤100000
theorem TOk.s {t:Tp} (h:TOk t):TOk t.s:=⟨t.s_at h.le,by rw [t.s_l];exact h.len⟩
theorem TOk.adv {t u:Tp} (h:TOk t) (k:Adv t u):TOk u:=⟨k.ok h.le,by rw [k.l];exact h.len⟩
theorem iE (t:Tp) (m:Int) (h:TOk t) (hm:m≤1048576):FSpec prog 21 [iS,uu m] (HT t) [] (.i (t.v m)) (FG t.s):=by
 refine aT func21 ?_;have hl:=h.len;have hle:=h.le;by_cases h1:t.l.length≤t.at_
 ·have e1:t.v m=0:=by unfold Tp.v;rw [decide_eq_true h1];rfl
  have e2:t.s=t:=by unfold Tp.s;rw [decide_eq_true h1];rfl
  rw [e1,e2];repeat' (first|refine af ?_ ?_|refine ae ?_|exact ah|refine ab fun hb=>?_|(refine ct (qf [(0,0)]) ?_;exact aw))
 ·obtain ⟨x,hx⟩:∃x,t.l[t.at_]? = some x:=⟨_,List.getElem?_eq_getElem (by omega)⟩;have e1:t.v m=g9 x m:=by unfold Tp.v;rw [decide_eq_false h1,cond_false,List.getD_eq_getElem?_getD,hx];rfl
  have e2:t.s=⟨t.l,t.at_+1⟩:=by unfold Tp.s;rw [decide_eq_false h1];rfl
  rw [e1,e2];have hx2:t.l[((t.at_:Int)+1-1).toNat]? = some x:=by rw [←hx];congr 1;omega
  have kM:=Iu x m hm;repeat' (first|refine af ?_ ?_|refine aa 9 rfl (cB [] (kM) ?_)|refine ae ?_|exact ah|refine ab fun hb=>?_|(refine ct (qf [(0,0)]) ?_;exact aw))
theorem G4 (t:Tp) (h:TOk t):FSpec prog 22 [iS] (HT t) [] (.b (decide (t.at_<t.l.length))) (FG t):=by
 refine aT func22 ?_;have hl:=h.len;have e:decide (t.at_<t.l.length)=decide ((t.at_:Int)<t.l.length):=by rw [Bool.eq_iff_iff];simp
 rw [e];repeat' (first|refine af ?_ ?_|refine ae ?_|exact ah|refine ab fun hb=>?_|(refine ct (qf [(0,0)]) ?_;exact aw))
theorem lf (n:Int):FSpec prog 17 [uu n] [] [] (.v (bg n).a) []:=by
 refine aT func17 ?_;obtain ⟨r,hr⟩:∃r,g9 n 8=r:=⟨_,rfl⟩;have kM:=zy n 8 (by omega) hr;have hb:=lY (n:=n) (m:=8) (by omega);rw [hr] at hb;have e:bg n=⟨r.tmod 4,1,1+r.tdiv 4⟩:=by unfold bg;rw [hr]
 rw [e];have hq:0≤r.tdiv 4∧r.tdiv 4≤8:=by rw [Int.tdiv_eq_ediv_of_nonneg hb.1];omega
 obtain ⟨q,hq2⟩:∃q,r.tdiv 4=q:=⟨_,rfl⟩;rw [hq2] at hq ⊢;repeat' (first|refine af ?_ ?_|refine aa 9 rfl (cB [] (kM) ?_)|(refine aa 10 rfl ?_;first|(refine sx (D3 rfl rfl rfl (by decide) ((congrArg _ hq2).trans (IntWalk.i64_in _ (by omega)))) ?_)|(refine sx (tX rfl rfl rfl (by decide) rfl) ?_))|refine ae ?_|exact ah|refine ab fun hb=>?_|exact bB|fail)
theorem G5 (n:Int):FSpec prog 163 [uu n] [] [] (.i (y8 n)) []:=by
 refine aT func163 ?_;obtain ⟨r,hr⟩:∃r,g9 n 8=r:=⟨_,rfl⟩;have kM:=zy n 8 (by omega) hr;have hb:=lY (n:=n) (m:=8) (by omega);unfold y8;rw [hr] at hb ⊢;obtain rfl|rfl|rfl|rfl|rfl|rfl|rfl|rfl:r=0∨r=1∨r=2∨r=3∨r=4∨r=5∨r=6∨r=7:=by omega
 all_goals
  repeat' (first|refine af ?_ ?_|(refine aa 6 rfl ?_;first|(refine sx (aR (i:=7) rfl rfl rfl rfl (by decide)) ?_)|(refine sx (aR (i:=6) rfl rfl rfl rfl (by decide)) ?_)|(refine sx (aR (i:=5) rfl rfl rfl rfl (by decide)) ?_)|(refine sx (aR (i:=4) rfl rfl rfl rfl (by decide)) ?_)|(refine sx (aR (i:=3) rfl rfl rfl rfl (by decide)) ?_)|(refine sx (aR (i:=2) rfl rfl rfl rfl (by decide)) ?_)|(refine sx (aR (i:=1) rfl rfl rfl rfl (by decide)) ?_)|(refine sx (aR (i:=0) rfl rfl rfl rfl (by decide)) ?_))|(refine aa 7 rfl ?_;refine sx (c5 rfl rfl) ?_)|refine aa 9 rfl (cB [] (kM) ?_)|refine ae ?_|exact ah|refine ab fun hb=>?_|exact bB|fail)
theorem Jr (r:Rs) (n:Int) (hr:1≤r.units∧r.units≤1000):FSpec prog 121 [r.a,uu n] [] [] (.v (Ft r n).a) []:=by
 refine aT func121 ?_;by_cases hk:r.kind=1
 ·have e:Ft r n=⟨y8 n,0⟩:=by unfold Ft;rw [decide_eq_true hk];rfl
  rw [e];have kM:=G5 n;repeat' (first|refine af ?_ ?_|refine aa 9 rfl (cB [] (kM) ?_)|refine ae ?_|exact ah|(refine ab fun hb=>?_;first|(exact absurd hk hb)|skip)|exact bB|fail)
 ·obtain ⟨v,hv⟩:∃v,g9 n r.units=v:=⟨_,rfl⟩;have hb:=lY (n:=n) hr.1;have kM:=zy n r.units (by omega) hv;have e:Ft r n=⟨0,1+v⟩:=by unfold Ft;rw [decide_eq_false hk,hv];rfl
  rw [e];rw [hv] at hb;repeat' (first|refine af ?_ ?_|refine aa 9 rfl (cB [] (kM) ?_)|refine ae ?_|exact ah|(refine ab fun hb=>?_;first|(exact absurd hb hk)|skip)|exact bB|fail)
theorem Iy:nA.toList=[97]:=by rw [ByteArray.toList_eq];rfl
theorem G6:nB.toList=[98]:=by rw [ByteArray.toList_eq];rfl
theorem G7:nC.toList=[99]:=by rw [ByteArray.toList_eq];rfl
theorem G8:nD.toList=[100]:=by rw [ByteArray.toList_eq];rfl
theorem G9:nP.toList=[112]:=by rw [ByteArray.toList_eq];rfl
theorem Iz:nQ.toList=[113]:=by rw [ByteArray.toList_eq];rfl
theorem mX {n:ByteArray} {k u h:Int} (hn:cE n.toList=true) (hs:aU ⟨n,k,u,h⟩=true) (h0:0≤h) (h1:h<4):jQ ⟨n,k,u,h⟩=true:=by
 unfold jQ Rs.key;rw [hs,decide_eq_true h0,decide_eq_true h1];simpa using hn
theorem zB (l:List Int):CatOk (jN l).1:=by
 show CatOk (mQ ⟨l,0⟩).1;generalize (⟨l,0⟩:Tp)=t;have b1:=t.v_in (m:=4) (by omega);have b2:=t.s.v_in (m:=4) (by omega);have b3:=t.s.s.v_in (m:=4) (by omega);have b4:=t.s.s.s.v_in (m:=4) (by omega);have b5:=t.s.s.s.s.v_in (m:=8) (by omega);have b6:=t.s.s.s.s.s.v_in (m:=4) (by omega);have b7:=t.s.s.s.s.s.s.v_in (m:=3) (by omega);have b8:=t.s.s.s.s.s.s.s.v_in (m:=4) (by omega);unfold mQ;dsimp only;generalize t.s.s.s.s.s.s.s.v 4=v8 at *
 generalize t.s.s.s.s.s.s.v 3=v7 at *
 generalize t.s.s.s.s.s.v 4=v6 at *
 generalize t.s.s.s.s.v 8=v5 at *
 generalize t.s.s.s.v 4=v4 at *
 generalize t.s.s.v 4=v3 at *
 generalize t.s.v 4=v2 at *
 generalize t.v 4=v1 at *
 have hp:∀n v,0≤v→v<8→∀h,aU ⟨n,2,1+v,h⟩=true:=fun n v h1 h2 h=>by unfold aU;simp;omega
 refine ⟨by simp,fun x hx=>?_,fun i hi=>?_⟩
 ·simp only [List.mem_cons,List.not_mem_nil,or_false] at hx;rcases hx with rfl|rfl|rfl|rfl|rfl|rfl
  ·exact mX (by rw [Iy];decide) rfl (by omega) (by omega)
  ·exact mX (by rw [G6];decide) rfl (by omega) (by omega)
  ·exact mX (by rw [G7];decide) rfl (by omega) (by omega)
  ·exact mX (by rw [G8];decide) rfl (by omega) (by omega)
  ·exact mX (by rw [G9];decide) (hp _ _ (by omega) (by omega) _) (by omega) (by omega)
  ·exact mX (by rw [Iz];decide) (hp _ _ (by omega) (by omega) _) (by omega) (by omega)
 ·simp only [List.length_cons,List.length_nil] at hi;unfold jE;obtain rfl|rfl|rfl|rfl|rfl:i=0∨i=1∨i=2∨i=3∨i=4:=by omega
  ·show Op.bytesLess nA.toList nB.toList=true;rw [Iy,G6];decide
  ·show Op.bytesLess nB.toList nC.toList=true;rw [G6,G7];decide
  ·show Op.bytesLess nC.toList nD.toList=true;rw [G7,G8];decide
  ·show Op.bytesLess nD.toList nP.toList=true;rw [G8,G9];decide
  ·show Op.bytesLess nP.toList nQ.toList=true;rw [G9,Iz];decide
theorem uQ {r:Rs} (h:jQ r=true):av (fp r)=true:=by
 have hs:aU r=true:=by unfold jQ at h;simp only [Bool.and_eq_true] at h;exact h.1.1.2
 unfold av mm fp;simp only [h,Bool.true_and];have h1:yq r []=true:=by unfold yq;rw [hs];simp [rl,f0,gp,hs,dw]
 rw [h1];rfl
theorem yi {l:List Rs} (h:CatOk l):f7 (l.map fp)=true:=by
 have key:∀(m:List Rs) (o:Option ByteArray),(∀x∈m,jQ x=true)→(∀i (h:i+1<m.length),jE (m[i]'(by omega)).name m[i+1].name=true)→(∀n,o=some n→∀x,m.head? = some x→jE n x.name=true)→jT o (m.map fp)=true:=by
  intro m;induction m with
  | nil=>intro _ _ _ _;rfl
  | cons x m ih =>
   intro o h1 h2 h3;rw [List.map_cons,du,uQ (h1 x (by simp))];have e:Bq o (fp x).res.name=true:=by
    cases o with
    | none=>rfl
    | some n=>exact h3 n rfl x rfl
   rw [e];refine ih _ (fun y hy=>h1 y (by simp [hy])) (fun i hi=>?_) fun n hn y hy=>?_
   ·have:=h2 (i+1) (by simpa using hi);simpa using this
   ·cases m with
    | nil=>cases hy
    | cons z m =>
     have:=h2 0 (by simp);simp only [List.head?_cons,Option.some.injEq] at hy;subst hy;injection hn with hn;subst hn;show jE x.name z.name=true;simpa using this
 unfold f7;rw [key l none h.ok h.asc (fun n hn=>by cases hn)];simp [h.len]
theorem tD:gL []=[]:=by
 apply List.eq_nil_iff_forall_not_mem.2
 intro x hx;rw [cI] at hx;cases hx
theorem A6 (l:List Rs):jS (l.map fp)=[]:=by
 induction l with
 | nil=>rfl
 | cons x l ih=>show gL []++jS (l.map fp)=[];rw [ih,tD];rfl
theorem yj {l:List Rs} (h:CatOk l):dl (l.map fp)=true∧aB (l.map fp)=[]:=by
 have e:aB (l.map fp)=[]:=by unfold aB;rw [A6,tD]
 refine ⟨?_,e⟩;unfold dl;rw [yi h,e];rfl
theorem nV {l:List Rs} (h:CatOk l):cM ⟨0,l.map fp,[]⟩=true:=by
 obtain ⟨h1,h2⟩:=yj h;unfold cM;dsimp only;rw [h1,h2];rfl
def Ju:Rs:=⟨nA,1,1,0⟩
def Dv:Cs:=⟨0,[fp Ju],[]⟩
def DE (p:Pr):Cm:=⟨1,p,Rq.zero,⟨#[]⟩,5⟩
def Dw (p:Pr):Cm:=⟨2,p,⟨.mk 0 ⟨nA,⟨5,0⟩⟩ [],0,0⟩,⟨#[]⟩,0⟩
def yl:Cs:=(fO Dv (DE (bg 0))).1
def wU:Cs:=(fO yl (DE (bg 1))).1
def ym:Cs:=(fO wU (Dw (bg 0))).1
def mY:Cs:=(fO ym (Dw (bg 1))).1
theorem JX:(fO Dv (DE (bg 0))).2.2=0:=by decide +kernel
theorem JY:(fO yl (DE (bg 1))).2.2=0:=by decide +kernel
theorem JZ:(fO wU (Dw (bg 0))).2.2=0:=by decide +kernel
theorem Jv:(fO wU (Dw (bg 0))).2.1.map (·.kind)=[1,2]:=by decide +kernel
theorem JN:(fO ym (Dw (bg 1))).2.2=0:=by decide +kernel
theorem JO:cD (bg 1) 0 mY.procs=1:=by decide +kernel
theorem J0:(mY.procs[1]?).map (fun x=>(x.waiting,(bo mY.queues x.proc x.req.expr).length))=some (true,1):=by decide +kernel
theorem Jw:cM mY=true:=(pY JN).2
theorem oq {c:Cs} {k:Cm} (h:(fO c k).2.2=0):fO c k=((fO c k).1,(fO c k).2.1,0):=by rw [←h]
end Go.Proofs.YtcgpepnbohejfaaGreatDoor
