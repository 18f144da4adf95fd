/- Part 2 of 35 of the proof of centralNew_holds (no condition). -/
import Derived.Test.YtjndcdcbjidocaaGreatDoorK01
import Derived.Test.YtjndcdcbjidocaaGreatDoorRows
import Derived.Test.YtjndcdcbjidocaaGreatDoorCards
import Derived.Test.YtjndcdcbjidocaaGreatDoorTie
import Derived.Laws.ResultCell
import Derived.Laws.NewBlocks
import Derived.HandedShaped
import Derived.ProofKit
import Derived.Lib.SmallJoins
import Derived.Lib.LaidTab
import Derived.Shelf.Vars
import Derived.LaidMore
import Derived.Lay
import Derived.LaidSub
import Derived.MakeChecks
import Derived.Stop.Joined
import Derived.SevenTiedAt
import Derived.Handy
import Derived.Scope
import Derived.Laws.IdiomCopy
import Derived.Deep.RegionHeld3
set_option linter.unusedVariables false
set_option linter.unusedSimpArgs false
set_option maxRecDepth 100000
set_option maxHeartbeats 64000000
namespace Go.Proofs.YtjndcdcbjidocaaGreatDoor
open Go.RowKit Go.Proofs.Tryz
def bQ (m:Int):Bool:=decide (1≤m) && decide (m≤5)
def cZ (a b:Int):Bool:=bQ a && bQ b && (decide (a=b) || decide (a=5) || decide (b=1) || decide (a=4) && !decide (b=5))
def jv (a b:Int):Bool:=bQ a && bQ b && !decide (a=5) && !decide (b=5) && (decide (a=1) || decide (b=1) || decide (a=b) && !decide (a=4))
theorem cI {a:Int} (h:bQ a=true):a=1∨a=2∨a=3∨a=4∨a=5:=by
 unfold bQ at h
 simp at h
 omega
theorem ew (m:Int) (w:World):Calls prog 115 #[.int .i64 m] w (uW w (.bool (bQ m))):=by
 go_enter func115,ntmps115
 go_wp2
 all_goals go_ret
 all_goals refine ⟨aN ?_,rfl⟩
 all_goals unfold bQ
 all_goals (first|rfl|(simp_all;done)|(simp_all;omega)|(rw [Bool.eq_iff_iff];simp_all;done)|(rw [Bool.eq_iff_iff];simp_all;omega))
theorem tl {fn:Func} {p:Tmp} {ty:TypeId} (h:fn.results = #[.cell p ty]) (tmps:Array Value) (P:Program) (w:World):(results fn tmps).run P w=((asAddr (tmps.getD p undef)).run P w).andThen fun a w₁=>(loadVar ty a).run P w₁:=by
 simp only [results,h]
 simp [Sem.run_bind,Result.andThen]
def Gy (m:Int):Value:=.agg #[.bool false,.bool (bQ m),.bool (decide (m=5) || decide (m=4) || decide (m=2)),.bool (decide (m=5) || decide (m=4) || decide (m=3)),.bool (decide (m=5) || decide (m=4)),.bool (decide (m=5))]
theorem vc (m:Int) (hm:bQ m=true) (w:World):Calls prog 240 #[.int .i64 m] w (lC w (Gy m)):=by
 rcases cI hm with rfl|rfl|rfl|rfl|rfl
 all_goals
  clear hm
  go_enter func240,ntmps240
  go_wp2
  (try simp only [Exit.inBlock,Exit.then])
  refine bodyPost_ret_by (v:=_) ?_ rfl ⟨rfl,by exact aU⟩
  rw [tl rfl]
  go_simp
  rfl
theorem zL {a b:Int} (ha:bQ a=true) (hb:bQ b=true) (w:World):(Instr.index 235 (Gy a) (.int .i64 b)).run prog w = .ok (.bool (cZ a b)) w:=by
 rcases cI ha with rfl|rfl|rfl|rfl|rfl <;> rcases cI hb with rfl|rfl|rfl|rfl|rfl <;> kernel_rfl
theorem pd (a b:Int) (w:World):Calls prog 181 #[.int .i64 a,.int .i64 b] w (lC w (.bool (cZ a b))):=by
 have H:=Lib.hid (fun m W=>ew m W)
 have HI:=Lib.hid (fun ha hb W=>zL (a:=a) (b:=b) ha hb W)
 have HU:Hid ((bQ a && bQ b)=false→cZ a b=false):=Lib.hid (fun h=>by unfold cZ;rw [h];rfl)
 generalize cZ a b=q at *
 go_enter func181,ntmps181
 go_wp2_with fail
 repeat' (first
  | (go_at_call 115;refine (H.out _ _).mono ?_;rintro e wa1 ⟨rfl,hwa1⟩;obtain rfl:=hwa1.symm;clear hwa1;go_wp2_with fail)
  | (go_at_call 240;refine (vc a (by assumption) _).mono ?_;rintro e w2 ⟨rfl,hb2⟩;have k:=HI.out (by assumption) (by assumption);generalize Gy a=v at *;have HB2:=Lib.hid hb2;clear hb2;go_wp2_with fail)
  | (go_ret;refine ⟨aN ?_,by exact aU⟩;first|rfl|(rw [HU.out (by simp_all)])))
structure Tog (w:World):Prop where
 at_:∀i j:Nat,i<5→j<5→w.cell? ⟨1,i*5+j,none⟩=some (.bool (jv (i+1:Nat) (j+1:Nat)))
theorem Tog.below {w w':World} (h:Tog w) (hb:Below w.heap.size w w'):Tog w' where
 at_:=fun i j hi hj=>(hb.cell (p:=⟨1,i*5+j,none⟩) (World.block_lt_of_cell? w _ (h.at_ i j hi hj))).trans (h.at_ i j hi hj)
theorem lE (a b:Int) (w:World) (hT:Tog w):Calls prog 327 #[.int .i64 a,.int .i64 b] w (uW w (.bool (jv a b))):=by
 have H:=Lib.hid (fun m W=>ew m W)
 by_cases hab:bQ a=true∧bQ b=true
 ·obtain ⟨ha,hb⟩:=hab
  obtain ⟨i,hi,ei⟩:∃i:Nat,i<5∧a=((i+1:Nat):Int):=⟨(a-1).toNat,by have:=cI ha;omega,by have:=cI ha;omega⟩
  obtain ⟨j,hj,ej⟩:∃i:Nat,i<5∧b=((i+1:Nat):Int):=⟨(b-1).toNat,by have:=cI hb;omega,by have:=cI hb;omega⟩
  have hc:=hT.at_ i j hi hj
  rw [←ei,←ej] at hc
  have w1:IntKind.i64.wrap (a-1)=(i:Int):=by rw [IntWalk.i64_in _ (by omega)];omega
  have w2:IntKind.i64.wrap (b-1)=(j:Int):=by rw [IntWalk.i64_in _ (by omega)];omega
  have H1:Hid (∀m W,m=a∨m=b→Calls prog 115 #[.int .i64 m] W (uW W (.bool true))):=Lib.hid (fun m W h=>by rcases h with rfl|rfl;exact ha▸ew _ W;exact hb▸ew _ W)
  generalize jv a b=q at *
  clear ha hb H hT ei ej
  go_enter func327,ntmps327
  go_wp2_with fail
  repeat' (first
   | (go_at_call 115;refine (H1.out _ _ (by simp)).mono ?_;rintro e wa1 ⟨rfl,hwa1⟩;obtain rfl:=hwa1.symm;clear hwa1;go_wp2_with fail)
   | (go_ret;exact ⟨aN rfl,rfl⟩))
 ·have HF:Hid (jv a b=false):=Lib.hid (by unfold jv;simp only [Bool.and_eq_false_imp];intros;simp_all)
  have HN:=Lib.hid hab
  clear hab hT
  go_enter func327,ntmps327
  go_wp2_with fail
  repeat' (first
   | (go_at_call 115;refine (H.out _ _).mono ?_;rintro e wa1 ⟨rfl,hwa1⟩;obtain rfl:=hwa1.symm;clear hwa1;go_wp2_with fail)
   | (go_ret;first|exact ⟨aN HF.out.symm,rfl⟩|(exact absurd ⟨by assumption,by assumption⟩ HN.out))
   | (exact absurd ⟨by assumption,by assumption⟩ HN.out))
section
variable {H:Type} {enc:TypeId×Value→H}
theorem xd {a:Assume} {C:Checked} {os:Os} {f:FuncId} {fn:Func} {s:ChangeSpec} {conds:List PathCond} {apart fresh handsOn again:Bool} {X:World→Array Value→Prop}
  (hX:∀(w w':World) (args:Array Value),w.heap=w'.heap→X w args→X w' args)
  (own:ownKnob C.prog.godebug=none) (started:os.Started) (noInit:C.prog.inits.idxOf? f=none) (hfn:C.prog.funcs[f]? = some fn)
  (witness:∃(w:World) (tape:Tape) (i:Input),w.os=os∧(w.forCall tape i).Shaped C.prog∧i.vars=[]∧Input.okWide C.prog (w.forCall tape i) .any w.heap.size f i∧
   ((s.pre enc C.prog fn conds apart (w.forCall tape i).memory i.args∧X (w.forCall tape i).memory i.args)∧sizedMet enc C.prog fn (OpenSpec.ofChange s) apart (w.forCall tape i).memory i.args)∧a.holds C.prog (lone (Frame.enter C.prog f i.args .normal) [] (w.forCall tape i)))
  (contract:∀(W:World) (base:Nat) (args:Array Value) (ds gs:List (DataW H)) (before:List MemPlace),
   (∀(j:Nat) t v,fn.params[j]? = some t→args[j]? = some v→Value.okWide C.prog W .any base t v)→
   DataW.Whole enc C.prog fn.params.toList s.vars apart W args.toList ds gs before→
   conds.all (PathCond.test C.prog ⟨fn.params.toList,ds,s.plain.varTypes C.prog,gs⟩)=true→
   (DataW.weightsEach C.prog (fn.params.toList++s.plain.varTypes C.prog) (ds++gs)).all (·≤reachBytes)=true→X W args→
   W.ShapedOpen C.prog→
   Calls C.prog f args W fun e W'=>∃v,e = .returned v∧s.post enc C.prog fn apart fresh handsOn again W args v W') :
  ReturnsInHanded a C os f .any (fun w args=>(s.pre enc C.prog fn conds apart w args∧X w args)∧sizedMet enc C.prog fn (OpenSpec.ofChange s) apart w args) (s.post enc C.prog fn apart fresh handsOn again):=by
 refine returnsInHanded_of_calls own started noInit witness ?_
 intro w tape i _ hsh _ hok hpre _
 obtain ⟨_,_,_,fn',hfn',_,_,_,_,hval⟩:=hok
 have e:fn'=fn:=Option.some.inj (hfn'.symm.trans hfn)
 subst e
 obtain ⟨⟨⟨ds,gs,before,hw,hc⟩,hx⟩,hz⟩:=hpre
 have hw':=DataW.Whole.of_heap (w':=w.forCall tape i) (by rfl) hw
 refine (contract (w.forCall tape i) w.heap.size i.args ds gs before hval hw' hc (hz.weights hw) (hX _ _ _ (by rfl) hx) hsh).mono fun e W' ⟨v,he,hp⟩=>?_
 subst he
 exact ChangeSpec.post_blind hp
end
section
open Go.WideShapes Go.ChangeShapes Go.Deep
section
variable {H:Type} {enc:TypeId×Value→H} {P:Program}
theorem rb {f:Func} {s:ChangeSpec} {apart fresh handsOn again:Bool} {W W':World} {args:Array Value} {v:Value} {ds gs:List (DataW H)} {before pa pv:List MemPlace}
  (hW:DataW.Whole enc P f.params.toList s.vars apart W args.toList ds gs before)
  (hres:∀(b:Nat) (sp:Nat→Bool) (hd:Bool),DataW.TrodAll enc P W' b sp hd f.resultTypes.toList (v.resultList f.resultTypes.size) (s.fn H (ds++gs)).results [])
  (hargs:∀sp:Nat→Bool,(∀p∈before,sp p.block=true)→DataW.TrodAll enc P W' 0 sp true f.params.toList args.toList (s.fn H (ds++gs)).args pa)
  (hvars:∀sp:Nat→Bool,(∀p∈before,sp p.block=true)→DataW.TrodVars enc P W' sp s.vars (s.fn H (ds++gs)).vars pv)
  (hps:before=pa++pv) (hb:Below W.heap.size W W')
  (hok:∀(j:Nat) (t:TypeId) (r:Value),f.resultTypes[j]? = some t→(v.resultList f.resultTypes.size)[j]? = some r→Value.okWide P W' .any 0 t r) :
  s.post enc P f apart fresh handsOn again W args v W':=by
 have hlt:∀p∈before,p.block<W.heap.size:=fun p hp=>hW.lt p hp
 have hold:∀p∈before,(fun b=>decide (b<W.heap.size)) p.block=true:=fun p hp=>by simpa using hlt p hp
 refine ⟨ds,gs,before,[],pa,pv,hW,hres _ _ _,hargs _ hold,hvars _ hold,World.keptBut_mono (fun p hp=>⟨hp,?_⟩) (hb.frame (·∈before)),fun _=>?_⟩
 ·rw [hps,List.mem_append] at hp
  exact Or.inr hp
 ·obtain ⟨_,_,_,_,_,hz,hn⟩:=hW
  refine ⟨hok,_,_,([]++pa)++pv,⟨[]++pa,pv,trodAll_append (hargs _ (fun _ _=>rfl)) (hres _ _ _),hvars _ (fun _ _=>rfl),rfl,?_,?_⟩,?_⟩
  ·intro b off hp
   have hin:MemPlace.cell b off∈before:=by rw [hps];simpa using hp
   rw [hb.frozen (hlt _ hin)]
   exact hz b off hin
  ·intro ha
   have:=hn ha
   rw [hps] at this
   simpa using this
  ·intro p hp _
   rw [hps]
   simpa using hp
end
theorem Tryz.own:ownKnob prog.godebug=none:=by kernel_rfl
theorem laidOut:laidOutB prog=true:=by kernel_rfl
end
section
open Go.ChangeShapes Go.WideShapes Go.ChangeAt Go.OpenShut
def ma:List (String×DataW Unit):=Rows.centralNewRow.laid
set_option maxRecDepth 100000
theorem zM (os:Os) (args:Array Value):laidMetH prog ma ((World.laidAll prog os ma).forCall (fun _ _=>0) ⟨#[],args,[]⟩).memory:=by
 rw [Go.MakeChecks.laidMetH_plain _ _ _ (by kernel_rfl)]
 exact laidMet_laidAll _ (by kernel_rfl) (by kernel_rfl)
theorem jw {P:Program} {w:World}:∀{l:List (String×DataW Unit)} {ps:List MemPlace},DataW.LaidVars P w l ps→∀n d,(n,d)∈l→
  ∃g t cs fuel p,P.globalNamed n=some g∧(P.globals[g]?).map (·.type)=some t∧w.var? P n=some cs∧DataW.trod (fun _=>()) P w 0 (fun _=>true) false fuel t cs.toList=some (d,p)
 | [],_,_,_,_,hm=>by cases hm
 | (n',d') :: r,ps,h,n,d,hm=>by
  obtain ⟨g,t,cs,fuel,p,q,h1,h2,h3,h4,h5,_⟩:=h
  rcases List.mem_cons.1 hm with e|e
  ·cases e
   exact ⟨g,t,cs,fuel,p,h1,h2,h3,h4⟩
  ·exact jw h5 n d e
theorem zN {P:Program} {w:World} {n:String} {g:Nat} {cs:Array Value} (hg:P.globalNamed n=some g) (h:w.var? P n=some cs) (i:Nat):w.cell? ⟨g,i,none⟩=cs[i]?:=by
 unfold World.var? at h
 rw [hg] at h
 simp only [Option.bind_some] at h
 unfold World.cell?
 rcases ho:w.heap[g]? with _|o
 ·rw [ho] at h;cases h
 ·rw [ho] at h
  simp only at h ⊢
  cases o <;> simp_all
section
variable {H:Type} {enc:TypeId×Value→H} {P:Program} {w:World} {base:Nat} {sp:Nat→Bool} {held:Bool} {fuel:Nat} {t e:TypeId} {n:Nat} {cs:List Value}
theorem Bq {bs:List Bool} {p:List MemPlace} (ht:P.underlying t=some (.array n e)) (he:P.underlying e=some .bool) (hc:P.cellsOf e=1) (h:DataW.trod enc P w base sp held fuel t cs=some (.agg (bs.map fun b=>.lit (.bool b)),p)):∀j (hj:j<bs.length),cs[j]? = some (.bool bs[j]):=by
 obtain ⟨xs,m,_,hx,hl,hn,hi⟩:=DataW.trod_array ht h
 injection hx with hx _
 injection hx with hx
 intro j hj
 have hlen:bs.length=xs.length:=by have:=congrArg List.length hx;simpa using this
 have h1:=hi j (by omega)
 rw [hc,Nat.mul_one,List.getElem?_eq_getElem (by omega)] at h1
 obtain ⟨b,h2,h3⟩:=DataW.trod_bool he h1
 have h4:(xs.map (·.1))[j]? = some (.lit (.bool b)):=by rw [List.getElem?_map,List.getElem?_eq_getElem (by omega),h3];rfl
 rw [←hx,List.getElem?_map,List.getElem?_eq_getElem hj] at h4
 injection h4 with h4
 injection h4 with h4
 injection h4 with h4
 have h5:(cs.drop j)[0]? = some (.bool b):=by
  have:=congrArg (·[0]?) h2
  simpa [List.getElem?_take] using this
 rw [List.getElem?_drop,Nat.add_zero] at h5
 rw [h5,h4]
theorem Br {bs:List (List Bool)} {p:List MemPlace} {t2:TypeId} {k:Nat} (ht:P.underlying t2=some (.array k t)) (ht2:P.underlying t=some (.array n e)) (he:P.underlying e=some .bool) (hc:P.cellsOf e=1) (hn5:P.cellsOf t=n) (hbs:∀r∈bs,r.length=n)
  (h:DataW.trod enc P w base sp held fuel t2 cs=some (.agg (bs.map fun r=>.agg (r.map fun b=>.lit (.bool b))),p)):∀i j (hi:i<bs.length) (hj:j<bs[i].length),cs[i*n+j]? = some (.bool bs[i][j]):=by
 obtain ⟨xs,m,_,hx,hl,hn,hi⟩:=DataW.trod_array ht h
 injection hx with hx _
 injection hx with hx
 intro i j hil hj
 have hlen:bs.length=xs.length:=by have:=congrArg List.length hx;simpa using this
 have h1:=hi i (by omega)
 rw [hn5,List.getElem?_eq_getElem (by omega)] at h1
 have h4:(xs.map (·.1))[i]? = some xs[i].1:=by rw [List.getElem?_map,List.getElem?_eq_getElem (by omega)];rfl
 rw [←hx,List.getElem?_map,List.getElem?_eq_getElem hil] at h4
 injection h4 with h4
 have h5:DataW.trod enc P w base sp held m t ((cs.drop (i*n)).take n)=some (.agg (bs[i].map fun b=>.lit (.bool b)),xs[i].2):=by rw [h1];exact congrArg some (Prod.ext h4.symm rfl)
 have h6:=Bq ht2 he hc h5 j hj
 have h7:j<n:=by have:=hbs _ (List.getElem_mem hil);omega
 rw [List.getElem?_take,if_pos h7,List.getElem?_drop] at h6
 exact h6
end
theorem Gz {W:World} (h:laidMetH prog ma W):Tog W:=by
 rw [Go.MakeChecks.laidMetH_plain _ _ _ (by kernel_rfl)] at h
 obtain ⟨_,hv,_⟩:=h
 obtain ⟨g',t',cs,fuel,p,h1,h2,h3,h4⟩:=jw hv "clusterlocks/mode.together" Rows.laid_clusterlocks_mode_together (by simp [ma,Rows.centralNewRow])
 have hg:prog.globalNamed "clusterlocks/mode.together" = some 1:=by kernel_rfl
 have ht:(prog.globals[1]?).map (·.type)=some 301:=by kernel_rfl
 obtain rfl:=Option.some.inj (hg.symm.trans h1)
 obtain rfl:=Option.some.inj (ht.symm.trans h2)
 have h5:=Br (bs:=[[true,true,true,true,false],[true,true,false,false,false],[true,false,true,false,false],[true,false,false,false,false],[false,false,false,false,false]]) (k:=5) (n:=5) (e:=4) (t:=300) underlying301 underlying300 underlying4 (by kernel_rfl) (by kernel_rfl) (by decide) h4
 refine ⟨fun i j hi hj=>?_⟩
 rw [zN hg h3,←Array.getElem?_toList]
 match i,hi,j,hj with
 | 0,_,0,_=>exact h5 0 0 (by decide) (by decide)
 | 0,_,1,_=>exact h5 0 1 (by decide) (by decide)
 | 0,_,2,_=>exact h5 0 2 (by decide) (by decide)
 | 0,_,3,_=>exact h5 0 3 (by decide) (by decide)
 | 0,_,4,_=>exact h5 0 4 (by decide) (by decide)
 | 1,_,0,_=>exact h5 1 0 (by decide) (by decide)
 | 1,_,1,_=>exact h5 1 1 (by decide) (by decide)
 | 1,_,2,_=>exact h5 1 2 (by decide) (by decide)
 | 1,_,3,_=>exact h5 1 3 (by decide) (by decide)
 | 1,_,4,_=>exact h5 1 4 (by decide) (by decide)
 | 2,_,0,_=>exact h5 2 0 (by decide) (by decide)
 | 2,_,1,_=>exact h5 2 1 (by decide) (by decide)
 | 2,_,2,_=>exact h5 2 2 (by decide) (by decide)
 | 2,_,3,_=>exact h5 2 3 (by decide) (by decide)
 | 2,_,4,_=>exact h5 2 4 (by decide) (by decide)
 | 3,_,0,_=>exact h5 3 0 (by decide) (by decide)
 | 3,_,1,_=>exact h5 3 1 (by decide) (by decide)
 | 3,_,2,_=>exact h5 3 2 (by decide) (by decide)
 | 3,_,3,_=>exact h5 3 3 (by decide) (by decide)
 | 3,_,4,_=>exact h5 3 4 (by decide) (by decide)
 | 4,_,0,_=>exact h5 4 0 (by decide) (by decide)
 | 4,_,1,_=>exact h5 4 1 (by decide) (by decide)
 | 4,_,2,_=>exact h5 4 2 (by decide) (by decide)
 | 4,_,3,_=>exact h5 4 3 (by decide) (by decide)
 | 4,_,4,_=>exact h5 4 4 (by decide) (by decide)
theorem Eb {W:World} (h:laidMetH prog ma W) (_:W.ShapedOpen prog):Tog W:=Gz h
end
section
open Go.WideShapes Go.ChangeShapes Go.Deep Go.Joins
theorem zO:Opens prog de 55 Rs.Fit:=by
 intro H enc w base spare held fuel cs x h
 obtain ⟨y0,y1,y2,y3,n,_,hl,h0,h1,h2,h3⟩:=trod_struct4 underlying55 h
 have hl4:cs.length=4:=hl.trans (by kernel_rfl)
 match cs,hl4 with
 | [c0,c1,c2,c3],_ =>
  have e0:prog.cellsOf 9=1:=by kernel_rfl
  have e1:prog.cellsOf 3=1:=by kernel_rfl
  obtain ⟨s,g0,w0⟩:=zI underlying9 h0
  obtain ⟨k,g1,w1⟩:=m6 underlying3 h1
  obtain ⟨u,g2,w2⟩:=m6 underlying3 h2
  obtain ⟨hm,g3,w3⟩:=m6 underlying3 h3
  refine ⟨⟨s,k,u,hm⟩,?_,w0,w1,w2,w3⟩
  have g0':([c0,c1,c2,c3].drop 0).take (prog.cellsOf 9)=[.string s]:=g0
  have g1':([c0,c1,c2,c3].drop 1).take (prog.cellsOf 3)=[.int .i64 k]:=g1
  have g2':([c0,c1,c2,c3].drop 2).take (prog.cellsOf 3)=[.int .i64 u]:=g2
  have g3':([c0,c1,c2,c3].drop 3).take (prog.cellsOf 3)=[.int .i64 hm]:=g3
  rw [e0] at g0'
  rw [e1] at g1' g2' g3'
  simp at g0' g1' g2' g3'
  show [c0,c1,c2,c3]=[.string s,.int .i64 k,.int .i64 u,.int .i64 hm]
  rw [g0',g1',g2',g3']
section
variable {H:Type} {enc:TypeId×Value→H} {w:World} {base:Nat} {spare:Nat→Bool} {held:Bool}
theorem zP {r:Reach} {b0:Nat} {v:Value} {d:DataW H} {p:List MemPlace} (hv:Value.okWide prog w r b0 22 v) (h:DataW.Trod enc prog w base spare held 22 v d p) :
  ∃(A:Option Addr) (l:Ct) (cap:Nat),v = .slice A l.length cap∧l.length≤cap∧cap≤maxLen∧RowsAt de w (Lo w.heap.size) A l∧∀x∈l,x.Fit:=by
 obtain ⟨a0,len,cap0,rfl⟩:=okWide_slice underlying22 hv
 obtain ⟨fuel,hf⟩:=h
 obtain ⟨l,⟨A,cap,hc,h1,h2,h3⟩,_,h5⟩:=(zO.sl underlying22 (by kernel_rfl)) hf
 have hc':[Value.slice a0 len cap0]=[.slice A l.length cap]:=by simpa [Value.cells] using hc
 injection hc' with hc'
 exact ⟨A,l,cap,hc',h1,h2,h3,h5⟩
end
end
def aG (a:Am):Bool:=decide (a=⟨0,0⟩)
def aD (r:Rs) (a:Am):Bool:=a7 r && (if r.kind=1 then bQ a.mode && decide (a.units=0) else decide (a.mode=0) && decide (1≤a.units) && decide (a.units≤r.units))
def be (r:Rs) (a:Am):Bool:=a7 r && (aG a || aD r a)
def bb (r:Rs) (a b:Am):Bool:=be r a && be r b && (aG b || !aG a && (if r.kind=1 then cZ a.mode b.mode else decide (b.units≤a.units)))
theorem Bt (m u:Int) (w:World):Calls prog 180 #[.agg #[.int .i64 m,.int .i64 u]] w (lC w (.bool (aG ⟨m,u⟩))):=by
 obtain ⟨_,k1,k2⟩:=Iu m u 0 0
 go_enter func180,ntmps180
 go_wp2_with fail
 repeat' (first
  | (go_ret;refine ⟨aN ?_,by exact aU⟩;simp [aG]))
theorem vd (r:Rs) (m n:Int) (w:World):Calls prog 52 #[r.val,.agg #[.int .i64 m,.int .i64 n]] w (lC w (.bool (aD r ⟨m,n⟩))):=by
 obtain ⟨nm,kd,u,h⟩:=r
 have HS:=Lib.hid (fun W=>iN ⟨nm,kd,u,h⟩ W)
 have HM:=Lib.hid (fun W=>ew m W)
 unfold Rs.val
 go_enter func52,ntmps52
 go_wp2_with fail
 repeat' (first
  | (go_at_call 114;refine (HS.out _).mono ?_;rintro e wa1 ⟨rfl,hb_wa1⟩;obtain ⟨hc_wa1,hf_wa1⟩:=gy hb_wa1;have hs_wa1:=hb_wa1.size;(try simp at hs_wa1);have hz_wa1_w_0:w.heap.size<wa1.heap.size:=(by omega);have hz_wa1_w_1:w.heap.size+1<wa1.heap.size:=(by omega);clear hs_wa1;have HB_wa1:=Lib.hid hb_wa1;clear hb_wa1;go_wp2_with fail)
  | (go_at_call 115;refine (HM.out _).mono ?_;rintro e wa2 ⟨rfl,hwa2⟩;obtain rfl:=hwa2.symm;clear hwa2;go_wp2_with fail)
  | (go_ret;refine ⟨aN ?_,by exact aU⟩;(first|(simp_all [aD];done)|(simp_all [aD];omega)|(rw [Bool.eq_iff_iff];simp_all [aD];done)|(rw [Bool.eq_iff_iff];simp_all [aD];omega))))
theorem rc (r:Rs) (m n:Int) (w:World):Calls prog 179 #[r.val,.agg #[.int .i64 m,.int .i64 n]] w (lC w (.bool (be r ⟨m,n⟩))):=by
 obtain ⟨nm,kd,u,h⟩:=r
 have HS:=Lib.hid (fun W=>iN ⟨nm,kd,u,h⟩ W)
 have HZ:=Lib.hid (fun W=>Bt m n W)
 have HM:=Lib.hid (fun W=>vd ⟨nm,kd,u,h⟩ m n W)
 unfold Rs.val
 go_enter func179,ntmps179
 go_wp2_with fail
 repeat' (first
  | (go_at_call 114;refine (HS.out _).mono ?_;rintro e wa1 ⟨rfl,hb_wa1⟩;obtain ⟨hc_wa1,hf_wa1⟩:=gy hb_wa1;have hs_wa1:=hb_wa1.size;(try simp at hs_wa1);have hz_wa1_w_0:w.heap.size<wa1.heap.size:=(by omega);have hz_wa1_w_1:w.heap.size+1<wa1.heap.size:=(by omega);clear hs_wa1;have HB_wa1:=Lib.hid hb_wa1;clear hb_wa1;go_wp2_with fail)
  | (go_at_call 180;refine (HZ.out _).mono ?_;rintro e wa2 ⟨rfl,hb_wa2⟩;obtain ⟨hc_wa2,hf_wa2⟩:=gy hb_wa2;have hs_wa2:=hb_wa2.size;(try simp at hs_wa2);have hz_wa2_w_0:w.heap.size<wa2.heap.size:=(by omega);have hz_wa2_w_1:w.heap.size+1<wa2.heap.size:=(by omega);clear hs_wa2;have HB_wa2:=Lib.hid hb_wa2;clear hb_wa2;go_wp2_with fail)
  | (go_at_call 52;refine (HM.out _).mono ?_;rintro e wa3 ⟨rfl,hb_wa3⟩;obtain ⟨hc_wa3,hf_wa3⟩:=gy hb_wa3;have hs_wa3:=hb_wa3.size;(try simp at hs_wa3);have hz_wa3_w_0:w.heap.size<wa3.heap.size:=(by omega);have hz_wa3_w_1:w.heap.size+1<wa3.heap.size:=(by omega);clear hs_wa3;have HB_wa3:=Lib.hid hb_wa3;clear hb_wa3;go_wp2_with fail)
  | (go_ret;refine ⟨aN ?_,by exact aU⟩;(first|(simp_all [be];done)|(simp_all [be];omega)|(rw [Bool.eq_iff_iff];simp_all [be];done)|(rw [Bool.eq_iff_iff];simp_all [be];omega))))
theorem d8 {α:Type} {l:List α} {k:Nat} {x:α} (h:k<l.length) (hx:l[k]=x):l.drop k=x :: l.drop (k+1):=by rw [List.drop_eq_getElem_cons h,hx]
theorem gz {α:Type} {l:List α} {k:Nat} (h:¬k<l.length):l.drop k=[]:=List.drop_eq_nil_of_le (by omega)
def aq:List Ho→Pr→Am
 | [],_=>⟨0,0⟩
 | h :: l,p=>bif decide (h.proc=p) then h.am else aq l p
def gO (l:List Ho):List Am:=l.map (·.am)
def cw (l:List Ho):List Pr:=l.map (·.proc)
theorem ve (a b c x y z:Int) (w:World):Calls prog 47 #[.agg #[.int .i64 a,.int .i64 b,.int .i64 c],.agg #[.int .i64 x,.int .i64 y,.int .i64 z]] w (lC w (.int .i64 (bt ⟨a,b,c⟩ ⟨x,y,z⟩))):=by
 have i0:∀w:World,(Instr.index 100 (.agg #[.int .i64 a,.int .i64 b,.int .i64 c]) (.int .i64 0)).run prog w = .ok (.int .i64 a) w:=fun _=>by kernel_rfl
 have i1:∀w:World,(Instr.index 100 (.agg #[.int .i64 a,.int .i64 b,.int .i64 c]) (.int .i64 1)).run prog w = .ok (.int .i64 b) w:=fun _=>by kernel_rfl
 have i2:∀w:World,(Instr.index 100 (.agg #[.int .i64 a,.int .i64 b,.int .i64 c]) (.int .i64 2)).run prog w = .ok (.int .i64 c) w:=fun _=>by kernel_rfl
 obtain ⟨r,hr⟩:∃r,bt ⟨a,b,c⟩ ⟨x,y,z⟩=r:=⟨_,rfl⟩
 rw [hr]
 have HR:=Lib.hid hr
 clear hr
 go_enter func47,ntmps47
 go_wp2
 go_rounds 4
 all_goals go_ret
 all_goals refine ⟨jY ?_,((Below.refl _ _).alloc (Nat.le_refl _) _).alloc (by simp) _⟩
 all_goals rw [←HR.out]
 all_goals rcases cM ⟨a,b,c⟩ ⟨x,y,z⟩ with ⟨h,e⟩|⟨h,e⟩|⟨h,e⟩ <;> rw [e] <;> first|rfl|(exfalso;unfold fq at h;simp only at h;omega)|(exfalso;simp only [Pr.mk.injEq] at h;omega)
theorem zQ (p q:Pr) (w:World):Calls prog 24 #[p.val,q.val] w (lC w (.int .i64 (bt p q))):=by
 obtain ⟨a,b,c⟩:=p
 obtain ⟨x,y,z⟩:=q
 have HC:=Lib.hid (fun w=>ve a b c x y z w)
 obtain ⟨r,hr⟩:∃r,bt ⟨a,b,c⟩ ⟨x,y,z⟩=r:=⟨_,rfl⟩
 rw [hr] at HC ⊢
 clear hr
 unfold Pr.val
 go_enter func24,ntmps24
 go_wp2_with fail
 refine (HC.out _).mono ?_
 rintro e w1 ⟨rfl,hb⟩
 have HB:=Lib.hid (((Below.refl w.heap.size w).alloc (Nat.le_refl _) _).alloc (by simp) _ |>.trans (hb.mono (by simp;omega)))
 go_wp2
 go_ret
 exact ⟨rfl,HB.out⟩
def bI (a:Am):Bool:=bQ a.mode && decide (a.units=0) || decide (a.mode=0) && decide (1≤a.units) && decide (a.units≤8)
def pe (x:Wt):Bool:=js x.proc && bI x.am && decide (0≤x.prio) && decide (x.prio≤7) && decide (0≤x.passed) && decide (x.passed≤3)
def f4 (p:Pr):Nat→List Wt→Int
 | _,[]=>-1
 | k,x :: l=>bif decide (x.proc=p) then (k:Int) else f4 p (k+1) l
def dh (l:List Wt) (p:Pr):Int:=f4 p 0 l
def tm (all:List Wt):Nat→List Wt→Bool
 | _,[]=>true
 | k,x :: l=>pe x && decide (dh all x.proc=(k:Int)) && tm all (k+1) l
def eh (l:List Wt):Bool:=decide (l.length≤8) && tm l 0 l
theorem j6 (all:List Wt) (k:Nat) (x:Wt) (l:List Wt):tm all k (x :: l)=(pe x && decide (dh all x.proc=(k:Int)) && tm all (k+1) l):=rfl
theorem dQ (p:Pr) (k:Nat) (x:Wt) (l:List Wt):f4 p k (x :: l)=bif decide (x.proc=p) then (k:Int) else f4 p (k+1) l:=rfl
theorem nU (m u:Int):bI ⟨m,u⟩=(aD ⟨⟨#[]⟩,1,1,0⟩ ⟨m,u⟩ || aD ⟨⟨#[]⟩,2,8,0⟩ ⟨m,u⟩):=by
 unfold bI aD a7
 simp
def jf (a:Am) (l:List Am):Bool:=l.any fun b=>!aG a && !aG b && !jv a.mode b.mode
def dR (r:Rs):Int→List Am→List Am→Bool
 | _,_,[]=>true
 | s,pre,a :: l=>be r a && (if r.kind=2 then decide (s+a.units≤r.units) && dR r (s+a.units) (pre++[a]) l else !jf a pre && dR r s (pre++[a]) l)
theorem jx (r:Rs) (s:Int) (pre:List Am) (a:Am) (l:List Am):dR r s pre (a :: l)=(be r a && (if r.kind=2 then decide (s+a.units≤r.units) && dR r (s+a.units) (pre++[a]) l else !jf a pre && dR r s (pre++[a]) l)):=rfl
def gA (r:Rs) (l:List Am):Bool:=a7 r && dR r 0 [] l
theorem bX {r:Rs} (h:a7 r=true):r.kind=1∧r.units=1∨r.kind=2∧1≤r.units∧r.units≤8:=by
 unfold a7 at h
 simp at h
 omega
theorem ig {r:Rs} {a:Am} (hp:be r a=true) (hk:r.kind=1):a.units=0∧(a.mode=0∨bQ a.mode=true):=by
 unfold be aG aD at hp
 simp only [hk,if_true,Bool.and_eq_true,Bool.or_eq_true,decide_eq_true_eq] at hp
 rcases hp.2 with h|h
 ·rw [h];exact ⟨rfl,Or.inl rfl⟩
 ·exact ⟨h.2.2,Or.inr h.2.1⟩
theorem jy {r:Rs} {a:Am} (hp:be r a=true) (hk:r.kind≠1):a.mode=0∧0≤a.units∧a.units≤8:=by
 have hs:a7 r=true:=by unfold be at hp;simp at hp;exact hp.1
 have:=bX hs
 unfold be aG aD at hp
 simp only [hk,if_false,Bool.and_eq_true,Bool.or_eq_true,decide_eq_true_eq] at hp
 rcases hp.2 with h|h
 ·rw [h];simp
 ·omega
theorem ii (a b:Int):jv a b=jv b a:=by
 unfold jv
 rw [Bool.eq_iff_iff]
 simp only [Bool.and_eq_true,Bool.or_eq_true,Bool.not_eq_true',decide_eq_true_eq,decide_eq_false_iff_not]
 constructor <;> (rintro ⟨⟨⟨⟨h1,h2⟩,h3⟩,h4⟩,h5⟩;refine ⟨⟨⟨⟨h2,h1⟩,h4⟩,h3⟩,?_⟩;omega)
def ez (pre:List Am) (m:Int):Bool:=decide (m≠0) && pre.any fun b=>decide (b.mode=m)
def iO (pre:List Am) (a:Int):Bool:=(List.range 6).any fun m=>ez pre m && !jv m a
theorem rS (pre:List Am) (a:Am) (m:Int):ez (pre++[a]) m=(ez pre m || decide (m≠0) && decide (a.mode=m)):=by
 unfold ez
 rw [List.any_append]
 cases decide (m≠0) <;> simp
theorem Bu {r:Rs} {a:Am} {pre:List Am} (hk:r.kind=1) (ha:be r a=true) (hm:a.mode≠0) (hp:∀b∈pre,be r b=true):jf a pre=iO pre a.mode:=by
 have hz:aG a=false:=by unfold aG;exact decide_eq_false fun e=>hm (by rw [e])
 rw [Bool.eq_iff_iff]
 unfold jf iO
 simp only [List.any_eq_true,hz,Bool.not_false,Bool.true_and,Bool.and_eq_true,Bool.not_eq_true',List.mem_range]
 constructor
 ·rintro ⟨b,hb,h1,h2⟩
  obtain ⟨h3,h4⟩:=ig (hp b hb) hk
  have h5:b.mode≠0:=fun e=>by
   obtain ⟨bm,bu⟩:=b
   simp only at e h3
   subst e
   subst h3
   simp [aG] at h1
  have h6:=cI (h4.resolve_left h5)
  refine ⟨b.mode.toNat,by omega,?_,?_⟩
  ·rw [show ((b.mode.toNat:Nat):Int)=b.mode by omega]
   unfold ez
   simp only [Bool.and_eq_true,decide_eq_true_eq,List.any_eq_true]
   exact ⟨h5,b,hb,rfl⟩
  ·rw [show ((b.mode.toNat:Nat):Int)=b.mode by omega,ii]
   exact h2
 ·rintro ⟨m,hm6,h1,h2⟩
  unfold ez at h1
  simp only [Bool.and_eq_true,decide_eq_true_eq,List.any_eq_true] at h1
  obtain ⟨h3,b,hb,h4⟩:=h1
  refine ⟨b,hb,?_,by rw [h4,ii];exact h2⟩
  unfold aG
  exact decide_eq_false fun e=>h3 (by rw [←h4,e])
theorem xe {r:Rs} {a:Am} {pre:List Am} (hk:r.kind=1) (ha:be r a=true) (hm:a.mode=0):jf a pre=false:=by
 have h:=(ig ha hk).1
 have hz:aG a=true:=by
  obtain ⟨m,u⟩:=a
  simp only at hm h
  subst hm
  subst h
  rfl
 unfold jf
 simp [hz]
theorem zR {r:Rs} {s:Int} {pre:List Am} {a:Am} {l:List Am} (hs:a7 r=true) (hp:∀b∈pre,be r b=true) (h0:0≤s∧s≤r.units) (h1:r.kind=1→s=0) :
  dR r s pre (a :: l)=(be r a && decide (s+a.units≤r.units) && (decide (a.mode=0) || !iO pre a.mode) && dR r (s+a.units) (pre++[a]) l):=by
 have hk:=bX hs
 rw [jx]
 cases ha:be r a with
 | false=>rfl
 | true =>
  rcases hk with ⟨k1,k2⟩|⟨k1,k2,k3⟩
  ·have hu:=(ig ha k1).1
   rw [hu,h1 k1,k2,if_neg (by omega)]
   by_cases hm:a.mode=0
   ·rw [xe k1 ha hm]
    simp [hm]
   ·rw [Bu k1 ha hm hp]
    simp [hm]
  ·have hm:=jy ha (by omega)
   rw [if_pos k1]
   simp [hm.1]
def sv (pre:List Am):Array Value:=#[.bool (ez pre 0),.bool (ez pre 1),.bool (ez pre 2),.bool (ez pre 3),.bool (ez pre 4),.bool (ez pre 5)]
theorem Ec {pre:List Am} {a:Am} (h:a.mode=0):sv (pre++[a])=sv pre:=by
 unfold sv
 simp [rS,h]
theorem GA {pre:List Am} {a:Am} {m:Nat} (h:a.mode=(m:Int)) (h0:1≤m) (h5:m≤5):sv (pre++[a])=(sv pre).setIfInBounds m (.bool true):=by
 have:m=1∨m=2∨m=3∨m=4∨m=5:=by omega
 unfold sv
 rcases this with rfl|rfl|rfl|rfl|rfl <;> simp [rS,h]
theorem Bv (pre:List Am) {j:Nat} (hj:j<6) (w:World):(Instr.index 235 (.agg (sv pre)) (.int .i64 (j:Int))).run prog w = .ok (.bool (ez pre j)) w:=by
 have:j=0∨j=1∨j=2∨j=3∨j=4∨j=5:=by omega
 clear hj
 rcases this with rfl|rfl|rfl|rfl|rfl|rfl <;> (show _=_) <;> kernel_rfl
theorem pf (r:Rs) (A:Option Addr) (B cap:Nat) (l:List Am) (w:World) (hT:Tog w) (hm:l.length≤maxLen) (hB:B≤w.heap.size) (hr:RowsAt zK w (Lo B) A l) :
  Calls prog 300 #[r.val,.slice A l.length cap] w (lC w (.bool (gA r l))):=by
 unfold maxLen at hm
 have HR:=Lib.hid hr
 have HT:=Lib.hid hT
 clear hr hT
 have HS:=Lib.hid (fun W=>iN r W)
 have HP:=Lib.hid (fun m u W=>rc r m u W)
 obtain ⟨q,hq⟩:∃q,gA r l=q:=⟨_,rfl⟩
 rw [hq]
 have HQ0:=Lib.hid hq
 clear hq
 cases hs:a7 r with
 | false =>
  have HQ:Hid (q=false):=Lib.hid (by rw [←HQ0.out];unfold gA;rw [hs];rfl)
  rw [hs] at HS
  clear hs
  obtain ⟨nm,kd,un,h⟩:=r
  unfold Rs.val at *
  go_enter func300,ntmps300
  go_wp2_with fail
  refine wp_scope_straight ?_
  go_wp2_with fail
  repeat' (first
   | (go_at_call 114;refine (HS.out _).mono ?_;rintro e wa1 ⟨rfl,hb_wa1⟩;obtain ⟨hc_wa1,hf_wa1⟩:=gy hb_wa1;have hs_wa1:=hb_wa1.size;(try simp at hs_wa1);have hz_wa1_w_0:w.heap.size<wa1.heap.size:=(by omega);clear hs_wa1;have HB_wa1:=Lib.hid hb_wa1;clear hb_wa1;go_wp2_with fail)
   | ((try rw [Exit.noGoto_ret]);go_ret;exact ⟨aN HQ.out.symm,by exact aU⟩))
 | true =>
  have HQ:Hid (dR r 0 [] l=q):=Lib.hid (by have h:=HQ0.out;unfold gA at h;rw [hs] at h;exact h)
  rw [hs] at HS
  have HSH:=Lib.hid hs
  have hu:0≤r.units:=by have:=bX hs;omega
  have hu8:r.units≤8:=by have:=bX hs;omega
  clear hs HQ0
  obtain ⟨nm,kd,un,h⟩:=r
  unfold Rs.val at *
  dsimp only at hu hu8
  go_enter func300,ntmps300
  go_wp2_with fail
  refine wp_scope_straight ?_
  go_wp2_with fail
  refine (HS.out _).mono ?_
  rintro e w1 ⟨rfl,hb1⟩
  have HB1:=Lib.hid hb1
  have HBW1:Hid (Below w.heap.size w w1):=Lib.hid aU
  have HK1:Hid (Blk w1 w.heap.size 55 #[.string nm,.int .i64 kd,.int .i64 un,.int .i64 h]):=Lib.hid ((Blk.new w 55 #[.string nm,.int .i64 kd,.int .i64 un,.int .i64 h]).below hb1 (by simp))
  clear hb1
  go_wp2_with fail
  refine wp_label ?_
  go_wp2_with fail
  go_loopg [5,7,17] l.length (fun m v5 v7 v17 wq=>∃(k:Nat) (s:Int),v5 = .bool true∧v7 = .int .i64 s∧v17 = .int .i64 (k:Int)∧k≤l.length∧l.length≤k+m∧0≤s∧s≤un∧Hid (kd=1→s=0)∧Hid (dR ⟨nm,kd,un,h⟩ s (l.take k) (l.drop k)=q)∧Hid (∀b∈l.take k,be ⟨nm,kd,un,h⟩ b=true)∧Hid (Below w.heap.size w wq)∧Hid (Blk wq w.heap.size 55 #[.string nm,.int .i64 kd,.int .i64 un,.int .i64 h])∧Hid (Blk wq w1.heap.size 235 (sv (l.take k))))
  case atStart=>exact ⟨0,0,rfl,rfl,rfl,Nat.zero_le _,by omega,by omega,hu,Lib.hid (fun _=>rfl),HQ,Lib.hid (by simp),Lib.hid aU,Lib.hid (HK1.out.alloc _),Lib.hid (Blk.new _ _ _)⟩
  case round =>
   obtain ⟨k,s,rfl,rfl,rfl,hk,hkm,hs0,hsu,HS0,HI,HPE,HB,HK,HV⟩:=hrel
   have hsz:w.heap.size≤w1.heap.size:=HBW1.out.size
   have hne:w.heap.size<w1.heap.size:=HK1.out.lt
   by_cases hlt:k<l.length
   ·obtain ⟨⟨m,u⟩,hx⟩:∃x,l[k]=x:=⟨_,rfl⟩
    obtain ⟨g,off,rfl,hbl,c0,c1⟩:=Bp (HR.out.below (B'':=w.heap.size) HB.out hB hB) hlt hx
    have hbl2:g<wr.heap.size:=Nat.lt_of_lt_of_le hbl HB.out.size
    have hlti:(k:Int)<(l.length:Int):=by omega
    have HTK:Hid (l.take (k+1)=l.take k++[⟨m,u⟩]):=Lib.hid (by rw [List.take_add_one,List.getElem?_eq_getElem hlt,hx];rfl)
    have HST:Hid ((be ⟨nm,kd,un,h⟩ ⟨m,u⟩ && decide (s+u≤un) && (decide (m=0) || !iO (l.take k) m) && dR ⟨nm,kd,un,h⟩ (s+u) (l.take (k+1)) (l.drop (k+1)))=q):=Lib.hid (by
     have h1:=HI.out
     rw [d8 hlt hx,zR HSH.out HPE.out ⟨hs0,hsu⟩ HS0.out] at h1
     rw [HTK.out]
     exact h1)
    have k0:=HK.out.cellx 2 (v:=.int .i64 un) rfl
    have j0:=HK.out.cellx 0 (v:=.string nm) rfl
    have j1:=HK.out.cellx 1 (v:=.int .i64 kd) rfl
    have j3:=HK.out.cellx 3 (v:=.int .i64 h) rfl
    have hlw:w.heap.size<wr.heap.size:=HK.out.lt
    clear hx hbl
    cases hp:be ⟨nm,kd,un,h⟩ ⟨m,u⟩ with
    | false =>
     have HQF:Hid (q=false):=Lib.hid (by rw [←HST.out,hp];rfl)
     have HPF:Hid (∀W,Calls prog 179 #[.agg #[.string nm,.int .i64 kd,.int .i64 un,.int .i64 h],.agg #[.int .i64 m,.int .i64 u]] W (lC W (.bool false))):=Lib.hid (fun W=>hp▸HP.out m u W)
     clear hp
     go_wp2_with fail
     refine (HPF.out _).mono ?_
     rintro e w2 ⟨rfl,hb2⟩
     have HB2:=Lib.hid hb2
     clear hb2
     go_wp2_with fail
     (try rw [Exit.noGoto_ret])
     go_ret
     exact ⟨aN HQF.out.symm,by exact aU⟩
    | true =>
     have HPT:Hid (∀W,Calls prog 179 #[.agg #[.string nm,.int .i64 kd,.int .i64 un,.int .i64 h],.agg #[.int .i64 m,.int .i64 u]] W (lC W (.bool true))):=Lib.hid (fun W=>hp▸HP.out m u W)
     have HP1:Hid (be ⟨nm,kd,un,h⟩ ⟨m,u⟩=true):=Lib.hid hp
     have hub:0≤u∧u≤8:=by
      by_cases hk1:kd=1
      ·have:=(ig hp hk1).1;dsimp only at this;omega
      ·have:=jy hp hk1;dsimp only at this;omega
     have hwr:IntKind.i64.wrap (s+u)=s+u:=IntWalk.i64_in _ (by omega)
     have HPE2:Hid (∀b∈l.take (k+1),be ⟨nm,kd,un,h⟩ b=true):=Lib.hid (by
      rw [HTK.out]
      intro b hb
      rcases List.mem_append.1 hb with hb|hb
      ·exact HPE.out b hb
      ·simp only [List.mem_singleton] at hb
       subst hb
       exact hp)
     have HS2:Hid (kd=1→s+u=0):=Lib.hid (fun hk1=>by have h1:=(ig hp hk1).1;have h2:=HS0.out hk1;dsimp only at h1;omega)
     clear hp
     by_cases hfit:s+u≤un
     ·have hfi:¬(un<s+u):=by omega
      by_cases hm0:m=0
      ·subst hm0
       have HN:Hid (dR ⟨nm,kd,un,h⟩ (s+u) (l.take (k+1)) (l.drop (k+1))=q):=Lib.hid (by have h1:=HST.out;rw [HP1.out,decide_eq_true hfit] at h1;simpa using h1)
       have HSV:Hid (sv (l.take (k+1))=sv (l.take k)):=Lib.hid (by rw [HTK.out];exact Ec rfl)
       go_wp2_with fail
       refine (HPT.out _).mono ?_
       rintro e w2 ⟨rfl,hb2⟩
       obtain ⟨hc_w2,hf_w2⟩:=gy hb2
       have hs_w2:=hb2.size
       (try simp at hs_w2)
       have hz_w2_0:wr.heap.size<w2.heap.size:=(by omega)
       clear hs_w2
       have hz:w.heap.size<w2.heap.size:=by omega
       have HB2:=Lib.hid hb2
       have HK2:Hid (Blk w2 w.heap.size 55 #[.string nm,.int .i64 kd,.int .i64 un,.int .i64 h]):=Lib.hid ((HK.out.alloc _).below hb2 (by simp;omega))
       have HV2:Hid (Blk w2 w1.heap.size 235 (sv (l.take k))):=Lib.hid ((HV.out.alloc _).below hb2 (by have:=HV.out.lt;simp;omega))
       clear hb2
       go_wp2_with fail
       go_roundg (gk-1)
       case measure=>omega
       case rel=>exact ⟨k+1,s+u,rfl,by go_num,by go_num,by omega,by omega,by omega,by omega,HS2,HN,HPE2,Lib.hid aU,HK2,Lib.hid (by rw [HSV.out];exact HV2.out)⟩
      ·have hk1:kd=1:=Classical.byContradiction fun hk1=>hm0 (jy HP1.out hk1).1
       have hmb:bQ m=true:=(ig HP1.out hk1).2.resolve_left hm0
       obtain ⟨n,hn1,hn5,rfl⟩:∃n:Nat,1≤n∧n≤5∧m=(n:Int):=⟨m.toNat,by have:=cI hmb;omega,by have:=cI hmb;omega,by have:=cI hmb;omega⟩
       have HC:Hid ((!iO (l.take k) n && dR ⟨nm,kd,un,h⟩ (s+u) (l.take (k+1)) (l.drop (k+1)))=q):=Lib.hid (by have h1:=HST.out;rw [HP1.out,decide_eq_true hfit,decide_eq_false hm0] at h1;simpa using h1)
       have hm0b:((n:Int) == 0)=false:=beq_eq_false_iff_ne.2 hm0
       have HSV:Hid (sv (l.take (k+1))=(sv (l.take k)).setIfInBounds n (.bool true)):=Lib.hid (by rw [HTK.out];exact GA rfl hn1 hn5)
       clear hm0 hk1 hmb
       go_wp2_with fail
       refine (HPT.out _).mono ?_
       rintro e w2 ⟨rfl,hb2⟩
       obtain ⟨hc_w2,hf_w2⟩:=gy hb2
       have hs_w2:=hb2.size
       (try simp at hs_w2)
       have hz_w2_0:wr.heap.size<w2.heap.size:=(by omega)
       clear hs_w2
       have hz:w.heap.size<w2.heap.size:=by omega
       have HB2:=Lib.hid hb2
       have HK2:Hid (Blk w2 w.heap.size 55 #[.string nm,.int .i64 kd,.int .i64 un,.int .i64 h]):=Lib.hid ((HK.out.alloc _).below hb2 (by simp;omega))
       have HV2:Hid (Blk w2 w1.heap.size 235 (sv (l.take k))):=Lib.hid ((HV.out.alloc _).below hb2 (by have:=HV.out.lt;simp;omega))
       have HT2:=Lib.hid (HT.out.below (show Below w.heap.size w w2 by exact aU))
       have HBW2:Hid (Below w.heap.size w w2):=Lib.hid aU
       have hv0:=HV2.out.cellx 0 (v:=.bool (ez (l.take k) 0)) rfl
       have hv1:=HV2.out.cellx 1 (v:=.bool (ez (l.take k) 1)) rfl
       have hv2:=HV2.out.cellx 2 (v:=.bool (ez (l.take k) 2)) rfl
       have hv3:=HV2.out.cellx 3 (v:=.bool (ez (l.take k) 3)) rfl
       have hv4:=HV2.out.cellx 4 (v:=.bool (ez (l.take k) 4)) rfl
       have hv5:=HV2.out.cellx 5 (v:=.bool (ez (l.take k) 5)) rfl
       have hlv:=HV2.out.lt
       have hfz:=HV2.out.frozen n
       obtain ⟨un',hcn⟩:∃u,w2.cell? ⟨w1.heap.size,n,none⟩=some u:=⟨_,(HV2.out.cell n).trans (Array.getElem?_eq_getElem (show n<(sv (l.take k)).size by simp [sv];omega))⟩
       have HM:=Lib.hid (fun a=>lE a n w2 HT2.out)
       obtain ⟨G,hG⟩:∃G,G=gk:=⟨_,rfl⟩
       subst hG
       obtain ⟨wo,hwo⟩:∃x,x=wr:=⟨_,rfl⟩
       subst hwo
       clear hb2
       go_wp2_with fail
       go_loopg [5,42] 6 (fun m v5 v42 wq=>∃j:Nat,v5 = .bool true∧v42 = .int .i64 (j:Int)∧j≤6∧6≤j+m∧wq=w2∧Hid (∀i:Nat,i<j→(ez (l.take k) i && !jv i n)=false))
       case atStart=>exact ⟨0,rfl,rfl,by omega,by omega,rfl,Lib.hid (fun _ h=>absurd h (by omega))⟩
       case round =>
        obtain ⟨j,rfl,rfl,hj6,hjm,rfl,HJ⟩:=hrel
        by_cases hj:j<6
        ·have ki:=fun W=>Bv (l.take k) hj W
         unfold sv at ki
         have hji:(j:Int)<6:=by omega
         have HMJ:=Lib.hid (HM.out j)
         obtain ⟨p1,hp1⟩:∃p,ez (l.take k) j=p:=⟨_,rfl⟩
         obtain ⟨p2,hp2⟩:∃p,jv j n=p:=⟨_,rfl⟩
         rw [hp1] at ki
         rw [hp2] at HMJ
         have HP12:=Lib.hid (And.intro hp1 hp2)
         clear hp1 hp2 hv0 hv1 hv2 hv3 hv4 hv5 hcn
         cases p1 with
         | false =>
          go_wp2_with fail
          go_roundg (gk-1)
          case measure=>omega
          case rel=>exact ⟨j+1,rfl,by go_num,by omega,by omega,rfl,Lib.hid (fun i hi=>by
           rcases Nat.lt_or_ge i j with h1|h1
           ·exact HJ.out i h1
           ·obtain rfl:i=j:=by omega
            rw [HP12.out.1];rfl)⟩
         | true =>
          cases p2 with
          | true =>
           go_wp2_with fail
           refine HMJ.out.mono ?_
           rintro e w3 ⟨rfl,hw3⟩
           obtain rfl:=hw3.symm
           clear hw3
           go_wp2_with fail
           go_roundg (gk-1)
           case measure=>omega
           case rel=>exact ⟨j+1,rfl,by go_num,by omega,by omega,rfl,Lib.hid (fun i hi=>by
            rcases Nat.lt_or_ge i j with h1|h1
            ·exact HJ.out i h1
            ·obtain rfl:i=j:=by omega
             rw [HP12.out.2];simp)⟩
          | false =>
           have HQF:Hid (q=false):=Lib.hid (by
            have h1:iO (l.take k) n=true:=by
             unfold iO
             rw [List.any_eq_true]
             exact ⟨j,by simpa using hj,by rw [HP12.out.1,HP12.out.2];rfl⟩
            rw [←HC.out,h1];rfl)
           go_wp2_with fail
           refine HMJ.out.mono ?_
           rintro e w3 ⟨rfl,hw3⟩
           obtain rfl:=hw3.symm
           clear hw3
           go_wp2_with fail
           (try rw [Exit.noGoto_ret])
           go_ret
           exact ⟨aN HQF.out.symm,HBW2.out⟩
        ·have hji:¬(j:Int)<6:=by omega
         have HN:Hid (dR ⟨nm,kd,un,h⟩ (s+u) (l.take (k+1)) (l.drop (k+1))=q):=Lib.hid (by
          have h1:iO (l.take k) n=false:=by
           unfold iO
           rw [List.any_eq_false]
           intro i hi
           rw [HJ.out i (by have:=List.mem_range.1 hi;omega)]
           simp
          rw [←HC.out,h1];rfl)
         go_wp2_with fail
         go_roundg (G-1)
         case measure=>omega
         case rel=>exact ⟨k+1,s+u,rfl,by go_num,by go_num,by omega,by omega,by omega,by omega,HS2,HN,HPE2,Lib.hid (Below.st HBW2.out (by simp;omega)),Lib.hid (HK2.out.far (by simp;omega) _),Lib.hid (by rw [HSV.out];exact HV2.out.set_ n _)⟩
     ·have hfi:un<s+u:=by omega
      have HQF:Hid (q=false):=Lib.hid (by rw [←HST.out,HP1.out,decide_eq_false hfit];rfl)
      go_wp2_with fail
      refine (HPT.out _).mono ?_
      rintro e w2 ⟨rfl,hb2⟩
      obtain ⟨hc_w2,hf_w2⟩:=gy hb2
      have hs_w2:=hb2.size
      (try simp at hs_w2)
      have hz_w2_0:wr.heap.size<w2.heap.size:=(by omega)
      clear hs_w2
      have hz:w.heap.size<w2.heap.size:=by omega
      have HB2:=Lib.hid hb2
      clear hb2
      go_wp2_with fail
      (try rw [Exit.noGoto_ret])
      go_ret
      exact ⟨aN HQF.out.symm,by exact aU⟩
   ·have HQT:Hid (q=true):=Lib.hid (by have h1:=HI.out;rw [gz hlt] at h1;exact h1.symm)
    have hlti:¬(k:Int)<(l.length:Int):=by omega
    go_wp2_with fail
    (try rw [Exit.noGoto_ret])
    go_ret
    exact ⟨aN HQT.out.symm,by exact aU⟩
def rd (r:Rs):Option Pr→List Ho→Bool
 | _,[]=>true
 | p,x :: l=>js x.proc && aD r x.am && (match p with|none=>true|some p=>decide (bt p x.proc<0)) && rd r (some x.proc) l
def rT (r:Rs) (l:List Ho):Bool:=a7 r && decide (l.length≤8) && rd r none l && gA r (gO l)
theorem rU (r:Rs) (p:Option Pr) (x:Ho) (l:List Ho):rd r p (x :: l)=(js x.proc && aD r x.am && (match p with|none=>true|some p=>decide (bt p x.proc<0)) && rd r (some x.proc) l):=rfl
def pg (l:List Ho) (k:Nat):Option Pr:=if k=0 then none else (l[k-1]?).map (·.proc)
theorem ph (l:List Ho):pg l 0=none:=rfl
theorem iP {l:List Ho} {k:Nat} {x:Ho} (h:k<l.length) (hx:l[k]=x):pg l (k+1)=some x.proc:=by
 unfold pg
 rw [if_neg (by omega),Nat.add_sub_cancel,List.getElem?_eq_getElem h,hx]
 rfl
theorem rV {l:List Ho} {k:Nat} {x:Ho} (h0:0<k) (h:k-1<l.length) (hx:l[k-1]=x):pg l k=some x.proc:=by
 unfold pg
 rw [if_neg (by omega),List.getElem?_eq_getElem h,hx]
 rfl
theorem xf (p q:Pr) (w:World):Calls prog 32 #[p.val,q.val] w (lC w (.int .i64 (bt p q))):=by
 obtain ⟨a,b,c⟩:=p
 obtain ⟨x,y,z⟩:=q
 unfold Pr.val bt
 dsimp only
 obtain ⟨r1,h1⟩:∃r,l9 a x=r:=⟨_,rfl⟩
 obtain ⟨r2,h2⟩:∃r,l9 b y=r:=⟨_,rfl⟩
 obtain ⟨r3,h3⟩:∃r,l9 c z=r:=⟨_,rfl⟩
 rw [h1,h2,h3]
 obtain ⟨r,hr⟩:∃r,(if r1≠0 then r1 else if r2≠0 then r2 else r3)=r:=⟨_,rfl⟩
 rw [hr]
 have HR:=Lib.hid hr
 have G1:Hid (∀W:World,Calls prog 77 #[.int .i64 a,.int .i64 x] W (uW W (.int .i64 r1))):=Lib.hid (fun W=>by have:=m7 a x W;rw [h1] at this;exact this)
 have G2:Hid (∀W:World,Calls prog 77 #[.int .i64 b,.int .i64 y] W (uW W (.int .i64 r2))):=Lib.hid (fun W=>by have:=m7 b y W;rw [h2] at this;exact this)
 have G3:Hid (∀W:World,Calls prog 77 #[.int .i64 c,.int .i64 z] W (uW W (.int .i64 r3))):=Lib.hid (fun W=>by have:=m7 c z W;rw [h3] at this;exact this)
 clear hr h1 h2 h3
 go_enter func32,ntmps32
 go_wp2_with fail
 refine (G1.out _).mono ?_
 rintro e w' ⟨rfl,rfl⟩
 go_wp2_with fail
 rotate_left
 refine (G2.out _).mono ?_
 rintro e w' ⟨rfl,rfl⟩
 go_wp2_with fail
 rotate_left
 refine (G3.out _).mono ?_
 rintro e w' ⟨rfl,rfl⟩
 go_wp2_with fail
 all_goals go_ret
 all_goals refine ⟨jY ?_,((Below.refl _ _).alloc (Nat.le_refl _) _).alloc (by simp) _⟩
 all_goals rw [←HR.out]
 all_goals (clear HR G1 G2 G3;simp_all)
def d9 (l:List Ho) (p:Pr):List Ho:=l.filter fun h=>!decide (h.proc=p)
def ld (x:Ho):List Ho→List Ho
 | []=>[x]
 | h :: l=>bif decide (0<bt h.proc x.proc) then x :: h :: l else h :: ld x l
def b9 (l:List Ho) (p:Pr) (a:Am):List Ho:=bif aG a then d9 l p else ld ⟨p,a⟩ (d9 l p)
theorem j7 (h:Ho) (l:List Ho) (p:Pr):d9 (h :: l) p=bif decide (h.proc=p) then d9 l p else h :: d9 l p:=by
 unfold d9
 rw [List.filter_cons]
 cases decide (h.proc=p) <;> rfl
theorem gu (x h:Ho) (l:List Ho):ld x (h :: l)=bif decide (0<bt h.proc x.proc) then x :: h :: l else h :: ld x l:=rfl
section
variable {α:Type} {E:El α} {w w':World} {l:List α} {base:Nat} {e:TypeId} {size:Nat} {xs:List Value} {g n cap:Nat}
theorem GB {xs:List Value} {j:Nat} {v:Value} (r:List Value) (h:j+1+r.length≤xs.length):(xs.set j v).take (j+1)++r++(xs.set j v).drop (j+1+r.length)=xs.take j++v :: r++xs.drop (j+(v :: r).length):=by
 have h1:(xs.set j v).take (j+1)=xs.take j++[v]:=by
  rw [List.set_eq_take_append_cons_drop,if_pos (by omega),List.take_append,List.length_take,Nat.min_eq_left (by omega),List.take_of_length_le (by rw [List.length_take];omega),show j+1-j=1 by omega]
  rfl
 have h2:(xs.set j v).drop (j+1+r.length)=xs.drop (j+(v :: r).length):=by
  rw [List.drop_set_of_lt (by omega),List.length_cons]
  congr 1
  omega
 rw [h1,h2]
 simp
theorem eL:∀(vs:List Value) (j:Nat) (w:World) (xs:List Value),w.ownsRow base e size (.slice (some ⟨g,0,none⟩) n cap) n xs→j+vs.length≤xs.length→
  (w.setCells g j vs).ownsRow base e size (.slice (some ⟨g,0,none⟩) n cap) n (xs.take j++vs++xs.drop (j+vs.length))
 | [],j,w,xs,h,_=>by simpa [World.setCells] using h
 | v :: r,j,w,xs,h,hl=>by
  have hl':j+1+r.length≤xs.length:=by simp at hl;omega
  rw [World.setCells,←GB r hl']
  exact eL r (j+1) _ _ (h.stored j v).1 (by simpa using hl')
theorem jz:∀(vs:List Value) (j:Nat) (w:World) (xs:List Value),w.ownsRow base e size (.slice (some ⟨g,0,none⟩) n cap) n xs→xs.length≤j→
  (w.setCells g j vs).ownsRow base e size (.slice (some ⟨g,0,none⟩) n cap) n xs
 | [],j,w,xs,h,_=>by simpa [World.setCells] using h
 | v :: r,j,w,xs,h,hl=>by
  rw [World.setCells]
  have:=(h.stored j v).1
  rw [List.set_eq_of_length_le hl] at this
  exact jz r (j+1) _ _ this (by omega)
theorem bz:∀(vs:List Value) (j:Nat) (w:World) (b:Nat),b≠g→(w.setCells g j vs).heap[b]? = w.heap[b]?
 | [],_,_,_,_=>rfl
 | v :: r,j,w,b,h=>by
  rw [World.setCells,bz r (j+1) _ b h]
  exact heap_setCell_other w ⟨g,j,none⟩ b v h
theorem bG:∀(vs:List Value) (j:Nat) (w:World),(w.setCells g j vs).heap.size=w.heap.size
 | [],_,_=>rfl
 | v :: r,j,w=>by
  rw [World.setCells,bG r (j+1)]
  simp [World.setCell]
theorem cN {B:Nat} (hg:B≤g):∀(vs:List Value) (j:Nat) (w':World),Below B w w'→Below B w (w'.setCells g j vs)
 | [],_,_,h=>h
 | v :: r,j,w',h=>by
  rw [World.setCells]
  exact cN hg r (j+1) _ (h.setCell hg v)
theorem OwnRows.cut (h:OwnRows E e w base (.slice (some ⟨g,0,none⟩) l.length cap) l) {k:Nat} (hk:k≤l.length):OwnRows E e w base (.slice (some ⟨g,0,none⟩) k cap) (l.take k):=by
 obtain ⟨h0,xs,⟨h1,h2⟩,h3⟩:=h
 refine ⟨h0,xs.take (k*E.n),?_,h3.take k⟩
 rw [List.length_take,Nat.min_eq_left hk]
 have hle:k*E.n≤l.length*E.n:=Nat.mul_le_mul_right _ hk
 refine ⟨by rw [List.length_take,h1,Nat.min_eq_left hle],?_⟩
 rcases h2 with ⟨hv,_⟩|⟨g',cap',cur,hv,hg,hh,hnc,hcm,hcs,ht⟩
 ·cases hv
 ·injection hv with e1 _ e3
  injection e1 with e1
  injection e1 with e1
  subst e1
  subst e3
  refine .inr ⟨_,_,cur,rfl,hg,hh,by omega,hcm,hcs,?_⟩
  rw [←ht,List.take_take,Nat.min_eq_left hle]
theorem OwnRows.setRow (h:OwnRows E e w base (.slice (some ⟨g,0,none⟩) l.length cap) l) {i:Nat} (hi:i<l.length) {y:α} {cs:List Value}
  (hy:E.rep (w.setCells g (i*E.n) cs) (oK (w.setCells g (i*E.n) cs) (.slice (some ⟨g,0,none⟩) l.length cap)) y cs) :
  OwnRows E e (w.setCells g (i*E.n) cs) base (.slice (some ⟨g,0,none⟩) l.length cap) (l.set i y):=by
 have hl:=E.len hy
 refine h.setAll hi hy (bG _ _ _) (fun b hb=>bz _ _ _ _ fun e=>hb.2 (by rw [e];rfl)) fun xs hx=>?_
 have:=eL cs (i*E.n) w xs hx (by
  rw [hl,hx.1]
  have:=Nat.mul_le_mul_right E.n (show i+1≤l.length from hi)
  rw [Nat.add_mul,Nat.one_mul] at this
  exact this)
 rwa [hl] at this
theorem OwnRows.off (h:OwnRows E e w base (.slice (some ⟨g,0,none⟩) l.length cap) l) (vs:List Value) {j:Nat} (hj:l.length*E.n≤j):OwnRows E e (w.setCells g j vs) base (.slice (some ⟨g,0,none⟩) l.length cap) l:=by
 obtain ⟨h0,xs,h1,h3⟩:=h
 refine ⟨by rw [bG];exact h0,xs,jz vs j w xs h1 (by rw [h1.1];exact hj),h3.same (fun b hb=>bz _ _ _ _ fun e=>hb.2 (by rw [e];rfl)) fun b hb=>⟨by rw [bG];exact hb.1,hb.2⟩⟩
theorem OwnRows.cellAt (h:OwnRows E e w base (.slice (some ⟨g,0,none⟩) l.length cap) l) {j:Nat} (hj:j<cap*E.n):(w.cell? ⟨g,j,none⟩).isSome=true∧w.frozen? ⟨g,j,none⟩=false:=by
 obtain ⟨h0,xs,⟨h1,h2⟩,h3⟩:=h
 rcases h2 with ⟨hv,_⟩|⟨g',cap',cur,hv,hg,hh,hnc,hcm,hcs,ht⟩
 ·cases hv
 ·injection hv with e1 _ e3
  injection e1 with e1
  injection e1 with e1
  subst e1
  subst e3
  refine ⟨?_,frozen_of_row w _ j cur e hh⟩
  have:w.cell? ⟨g,j,none⟩=cur[j]?:=by simp [World.cell?,hh]
  rw [this,Array.getElem?_eq_getElem (by rw [hcs];exact hj)]
  rfl
end
section
variable {α:Type} {E:El α} {w w':World} {l ys:List α} {base:Nat} {e:TypeId} {g cap:Nat}
theorem gv {P:Program} (w:World) (t ty e:TypeId) (k:Nat) (b o dLen dCap:Nat) (a:Addr) (sLen sCap:Nat) (cs:List Value)
  (hu:P.underlying t=some (.slice e)) (hs:(P.info? e).map (·.size)=some k) (hn:cs.length=Nat.min sLen dLen*k)
  (hsrc:∀j v,cs[j]? = some v→w.cell? (a.add j)=some v) (hc:∀j,j<cs.length→(w.cell? ⟨b,o+j,none⟩).isSome=true) (hf:∀j,j<cs.length→w.frozen? ⟨b,o+j,none⟩=false) (h1:∀v∈cs,v.oneCell'=true) :
  (Builtin.copy_ #[t,t] ty #[.slice (some ⟨b,o,none⟩) dLen dCap,.slice (some a) sLen sCap]).run P w = .ok (goInt (Nat.min sLen dLen)) (w.setCells b o cs):=by
 have hl:=run_loadCells_list (P:=P) w a cs hsrc
 have hst:=run_storeCells_cells (P:=P) b o cs 0 w (by simpa using hc) (by simpa using hf) h1
 cases hq:P.info? e with
 | none=>simp [hq] at hs
 | some i =>
  have hi:i.size=k:=by simpa [hq] using hs
  simp [Builtin.copy_,run_underlying hu,Builtin.lenOf,Builtin.firstCells,sizeOf,typeInfo,hq,hi,←hn,hl,hst]
theorem jA {P:Program} (w:World) (t ty e:TypeId) (k:Nat) (d a:Option Addr) (dLen dCap sLen sCap:Nat) (hu:P.underlying t=some (.slice e)) (hs:(P.info? e).map (·.size)=some k) (hn:Nat.min sLen dLen=0) :
  (Builtin.copy_ #[t,t] ty #[.slice d dLen dCap,.slice a sLen sCap]).run P w = .ok (goInt 0) w:=by
 cases hq:P.info? e with
 | none=>simp [hq] at hs
 | some i =>
  have hl:∀(x:Addr),(loadCells x 0).run P w = .ok #[] w:=fun x=>by simpa using run_loadCells_list (P:=P) w x [] (by simp)
  cases d <;> cases a <;> simp [Builtin.copy_,run_underlying hu,Builtin.lenOf,Builtin.firstCells,sizeOf,typeInfo,hq,hn,storeCells,hl]
theorem OwnRows.part (h:OwnRows E e w base (.slice (some ⟨g,0,none⟩) l.length cap) l) (k n:Nat):∃cs,Reps E w (oK w (.slice (some ⟨g,0,none⟩) l.length cap)) ((l.drop k).take n) cs∧∀i v,cs[i]? = some v→w.cell? ⟨g,k*E.n+i,none⟩=some v:=by
 obtain ⟨h0,xs,h1,h3⟩:=h
 refine ⟨_,(h3.drop k).take n,fun i v hv=>?_⟩
 rw [List.getElem?_take] at hv
 split at hv
 ·rw [List.getElem?_drop] at hv
  have:=h1.cells rfl _ _ hv
  rwa [cL,Nat.zero_add] at this
 ·cases hv
end
def m8 (A:Option Addr) (cap k size:Nat):Option Addr:=if cap=k then A else A.map (·.add (k*size))
theorem RowsAt.cut {α:Type} {E:El α} {w:World} {S:Nat→Prop} {A:Option Addr} {l:List α} {k cap:Nat} (h:RowsAt E w S A l) (hk:k≤l.length) (hc:l.length≤cap):RowsAt E w S (m8 A cap k E.n) (l.drop k):=by
 unfold m8
 rcases Nat.eq_or_lt_of_le hk with e|e
 ·rw [e,List.drop_length]
  exact RowsAt.nil _ _ _ _
 ·rw [if_neg (by omega)]
  obtain ⟨b,off,_,hA,_⟩:=h.get e
  subst hA
  simp only [Option.map_some,cL]
  exact h.drop k
theorem vf {P:Program} {t e:TypeId} {i:TypeInfo} (ht:P.underlying t=some (.slice e)) (hi:P.info? e=some i) (A:Option Addr) (n cap k:Nat) (hk:k≤cap) (w:World) :
  (Instr.slice t (.slice A n cap) none (some (.int .i64 (k:Int))) none).run P w = .ok (.slice A k cap) w:=by
 have he:P.elem t=e:=by simp [Program.elem,ht]
 have hh:((k:Int)).toNat=k:=by omega
 rw [run_slice_h w t A n cap (by rw [he];exact ht) .i64 k (by omega) (by omega),he,hh]
 have h0:∀a:Addr,a.add 0=a:=fun a=>by unfold Addr.add;simp
 cases A <;> simp [sizeOf,typeInfo,hi,sliced,Result.andThen,h0]
theorem Bw {P:Program} {t e:TypeId} {i:TypeInfo} (ht:P.underlying t=some (.slice e)) (hi:P.info? e=some i) (A:Option Addr) (n cap k:Nat) (hk:k≤n) (w:World) :
  (Instr.slice t (.slice A n cap) (some (.int .i64 (k:Int))) none none).run P w = .ok (.slice (m8 A cap k i.size) (n-k) (cap-k)) w:=by
 have he:P.elem t=e:=by simp [Program.elem,ht]
 have hh:((k:Int)).toNat=k:=by omega
 rw [run_slice_l w t A n cap (by rw [he];exact ht) .i64 k (by omega) (by omega),he,hh]
 simp [sizeOf,typeInfo,hi,sliced,Result.andThen,m8]
theorem vg {t e:TypeId} {z:Value} {sz by_:Nat} (ht:prog.underlying t=some (.slice e)) (hi:(prog.info? e).map (fun i=>(i.zero,i.size,i.bytes))=some (some z,sz,by_)) (A:Option Addr) (n cap k:Nat) (hk:k≤n) (hc:n≤cap) :
  (∀w,(Instr.sliceAt t (.slice A n cap) none (some (.int .i64 (k:Int))) none).run prog w = .ok (.slice A k cap) w)∧
  ∀w,(Instr.sliceAt t (.slice A n cap) (some (.int .i64 (k:Int))) none none).run prog w = .ok (.slice (m8 A cap k sz) (n-k) (cap-k)) w:=by
 obtain ⟨i0,hi0,hz0,hz1,hz2⟩:=info_parts hi
 have he:prog.elem t=e:=by simp [Program.elem,ht]
 constructor
 ·intro w
  rw [run_sliceAt_slice w t _ _ _ _ (by rw [he];exact ht)]
  exact vf ht hi0 A n cap k (by omega) w
 ·intro w
  rw [run_sliceAt_slice w t _ _ _ _ (by rw [he];exact ht),Bw ht hi0 A n cap k hk w,hz1]
theorem mb (l:List Ho) (p:Pr):(d9 l p).length≤l.length:=List.length_filter_le _ _
section
def rW (r:Rs) (l:List Ho) (p:Pr) (a:Am):Bool:=rT r l && js p && aD r a
def fv (r:Rs) (l:List Ho) (p:Pr) (a:Am):Bool:=rW r l p a && rT r (b9 l p a)
theorem md (x:Ho):∀l:List Ho,(ld x l).length=l.length+1
 | []=>rfl
 | h :: l=>by
  rw [gu]
  cases decide (0<bt h.proc x.proc) <;> simp [md x l]
theorem Bx (l:List Ho) (p:Pr) (a:Am):(b9 l p a).length≤l.length+1:=by
 have:=mb l p
 unfold b9
 cases aG a
 ·simp [md];omega
 ·simp;omega
structure BoxR (w:World) (nm:ByteArray) (kd un h x y z m u:Int) (v:World):Prop where
 below:Below (((w.alloc (.cells #[.string nm,.int .i64 kd,.int .i64 un,.int .i64 h] 55)).alloc (.cells #[.int .i64 x,.int .i64 y,.int .i64 z] 35)).alloc (.cells #[.int .i64 m,.int .i64 u] 37)).heap.size (((w.alloc (.cells #[.string nm,.int .i64 kd,.int .i64 un,.int .i64 h] 55)).alloc (.cells #[.int .i64 x,.int .i64 y,.int .i64 z] 35)).alloc (.cells #[.int .i64 m,.int .i64 u] 37)) v
variable {w v v':World} {nm:ByteArray} {kd un h x y z m u:Int}
theorem BoxR.made:BoxR w nm kd un h x y z m u (((w.alloc (.cells #[.string nm,.int .i64 kd,.int .i64 un,.int .i64 h] 55)).alloc (.cells #[.int .i64 x,.int .i64 y,.int .i64 z] 35)).alloc (.cells #[.int .i64 m,.int .i64 u] 37)):=⟨Below.refl _ _⟩
theorem BoxR.next (b:BoxR w nm kd un h x y z m u v) (hb:Below v.heap.size v v'):BoxR w nm kd un h x y z m u v':=⟨Below.tr b.below hb⟩
theorem BoxR.lt (b:BoxR w nm kd un h x y z m u v):w.heap.size+1+1<v.heap.size:=by have:=b.below.size;simp at this;omega
theorem BoxR.res (b:BoxR w nm kd un h x y z m u v):Blk v w.heap.size 55 #[.string nm,.int .i64 kd,.int .i64 un,.int .i64 h]:=(((Blk.new w 55 #[.string nm,.int .i64 kd,.int .i64 un,.int .i64 h]).alloc _).alloc _).below b.below (by simp;omega)
end
structure Qu where
 res:Rs
 holds:List Ho
 convs:List Wt
 waits:List Wt
 gen:Int
def Qu.val (q:Qu) (A1 A2 A3:Option Addr) (c1 c2 c3:Nat):Value:=.agg #[.string q.res.name,.int .i64 q.res.kind,.int .i64 q.res.units,.int .i64 q.res.home,.slice A1 q.holds.length c1,.slice A2 q.convs.length c2,.slice A3 q.waits.length c3,.int .i64 q.gen]
structure QF (w:World) (B:Nat) (A1 A2 A3:Option Addr) (q:Qu):Prop where
 r1:RowsAt ga w (Lo B) A1 q.holds
 r2:RowsAt eZ w (Lo B) A2 q.convs
 r3:RowsAt eZ w (Lo B) A3 q.waits
 m1:q.holds.length≤maxLen
 m2:q.convs.length≤maxLen
 m3:q.waits.length≤maxLen
 hB:B≤w.heap.size
theorem QF.below {w w':World} {B:Nat} {A1 A2 A3:Option Addr} {q:Qu} (f:QF w B A1 A2 A3 q) (hb:Below w.heap.size w w'):QF w' B A1 A2 A3 q :=
 ⟨f.r1.below hb f.hB (Nat.le_refl _),f.r2.below hb f.hB (Nat.le_refl _),f.r3.below hb f.hB (Nat.le_refl _),f.m1,f.m2,f.m3,Nat.le_trans f.hB hb.size⟩
structure BoxQ (w:World) (nm:ByteArray) (kd un h:Int) (A1:Option Addr) (n1 c1:Nat) (A2:Option Addr) (n2 c2:Nat) (A3:Option Addr) (n3 c3:Nat) (gen:Int) (v:World):Prop where
 below:Below w.heap.size w v
 blk:Blk v w.heap.size 81 #[.string nm,.int .i64 kd,.int .i64 un,.int .i64 h,.slice A1 n1 c1,.slice A2 n2 c2,.slice A3 n3 c3,.int .i64 gen]
section
variable {w v v':World} {nm:ByteArray} {kd un h gen:Int} {A1 A2 A3:Option Addr} {n1 n2 n3 c1 c2 c3:Nat}
theorem BoxQ.made:BoxQ w nm kd un h A1 n1 c1 A2 n2 c2 A3 n3 c3 gen (w.alloc (.cells #[.string nm,.int .i64 kd,.int .i64 un,.int .i64 h,.slice A1 n1 c1,.slice A2 n2 c2,.slice A3 n3 c3,.int .i64 gen] 81)):=⟨Below.al (Below.refl _ _) _,Blk.new _ _ _⟩
theorem BoxQ.next (b:BoxQ w nm kd un h A1 n1 c1 A2 n2 c2 A3 n3 c3 gen v) (hb:Below v.heap.size v v'):BoxQ w nm kd un h A1 n1 c1 A2 n2 c2 A3 n3 c3 gen v':=⟨Below.tr b.below hb,b.blk.below hb b.blk.lt⟩
end
def di (q:Qu):Option Wt:=match q.convs with|x :: _=>some x | []=>q.waits.head?
def zS (q:Qu) (k:Nat) (x:Wt):Bool:=decide (dh q.convs x.proc=(k:Int)) && !aG (aq q.holds x.proc) && aD q.res x.am && bb q.res x.am (aq q.holds x.proc) && !decide (x.am=aq q.holds x.proc) && decide (x.prio=0) && decide (x.passed=0)
def tn (q:Qu):Nat→List Wt→Bool
 | _,[]=>true
 | k,x :: l=>zS q k x && tn q (k+1) l
def Il (q:Qu):Bool:=decide (q.convs.length≤8) && tn q 0 q.convs
def re (q:Qu):List Wt→Bool
 | []=>true
 | x :: l=>aD q.res x.am && aG (aq q.holds x.proc) && re q l
def Im (q:Qu):Bool:=eh q.waits && decide (q.holds.length+q.waits.length≤8) && re q q.waits
def g6 (q:Qu):Bool:=jr q.res && rT q.res q.holds && Il q && Im q && decide (0≤q.gen) && decide (q.gen≤1073741824)
def ax (q:Qu):Bool:=g6 q && match di q with
 | none=>true
 | some x=>!fv q.res q.holds x.proc x.am
theorem m9 (q:Qu) (k:Nat) (x:Wt) (l:List Wt):tn q k (x :: l)=(zS q k x && tn q (k+1) l):=rfl
theorem na (q:Qu) (x:Wt) (l:List Wt):re q (x :: l)=(aD q.res x.am && aG (aq q.holds x.proc) && re q l):=rfl
structure BoxS (w:World) (nm:ByteArray) (kd un h:Int) (A1:Option Addr) (n1 c1:Nat) (A2:Option Addr) (n2 c2:Nat) (A3:Option Addr) (n3 c3:Nat) (gen:Int) (v:World):Prop where
 q:BoxQ w nm kd un h A1 n1 c1 A2 n2 c2 A3 n3 c3 gen v
 r:Blk v (w.heap.size+1) 55 #[.string nm,.int .i64 kd,.int .i64 un,.int .i64 h]
theorem BoxS.next {w v v':World} {nm:ByteArray} {kd un h gen:Int} {A1 A2 A3:Option Addr} {n1 n2 n3 c1 c2 c3:Nat} (b:BoxS w nm kd un h A1 n1 c1 A2 n2 c2 A3 n3 c3 gen v) (hb:Below v.heap.size v v'):BoxS w nm kd un h A1 n1 c1 A2 n2 c2 A3 n3 c3 gen v':=⟨b.q.next hb,b.r.below hb b.r.lt⟩
end Go.Proofs.YtjndcdcbjidocaaGreatDoor
