/- Part 10 of 24 of the proof of rollbackBytes_holds (no condition). -/
import Derived.Test.YtdaajdflefnjfaaGreatL09
set_option linter.unusedVariables false
set_option linter.unusedSimpArgs false
set_option maxRecDepth 100000
set_option maxHeartbeats 64000000
namespace Go.Proofs.YtdaajdflefnjfaaGreat
open Go.RowKit Go.Proofs.Tryz
section
variable {P:Program} {nt:Nat} {Ks:List Nat} {Q:Exit→Mst→Prop} {s:Mst} {K:Mst→Prop} {ops:Array Oper} {draw:Bool} {o:Oper} {l:List Oper} {acc:List (List Nat×List Nat)} {x:Code} {R us:List Nat} {e:Mef} {t:Nat} {d:TV} {hs:List (Nat×Option Box)}
structure LO (P:Program) (o:Oper) (s:Mst) (R:List Nat) (e:Mef):Prop where
 h:LOp P o s R e
theorem lk (n:Nat) (_:Mr o.op=n) (h:LOp P o s R e):LO P o s R e:=⟨h⟩
theorem Mz (he:LO P o s R ⟨d,hs,us⟩:=by first
 | (apply lk 1 rfl;first|exact DB rfl rfl|exact zf rfl rfl)
 | (apply lk 2 rfl;exact ze rfl rfl)
 | (apply lk 3 rfl;first|exact DE rfl rfl rfl rfl|exact vw rfl rfl rfl rfl (Nat.le_of_ble_eq_true rfl)|exact zg rfl rfl (by first|assumption|exact List.getElem?_eq_getElem (by omega)) rfl|exact rz rfl rfl (by first|assumption|exact List.getElem?_eq_getElem (by omega)) rfl (Nat.le_of_ble_eq_true rfl)|exact zh rfl rfl rfl rfl (by first|assumption|exact List.getElem?_eq_getElem (by omega)) rfl|exact rA rfl rfl rfl rfl (by first|assumption|exact List.getElem?_eq_getElem (by omega)) rfl (Nat.le_of_ble_eq_true rfl))
 | (apply lk 5 rfl;first|exact BR rfl rfl|exact xa rfl rfl|exact xb rfl rfl)
 | (apply lk 6 rfl;first|exact qm rfl rfl rfl rfl rfl rfl (by omega)|exact t7 rfl rfl rfl rfl rfl (by omega)|exact p6 rfl rfl rfl rfl rfl rfl (by omega)|exact xG rfl rfl rfl rfl (by omega) (by first|omega|(simp <;> omega))|exact vP rfl rfl rfl rfl rfl (by omega) (by first|omega|(simp <;> omega))|exact vQ rfl rfl rfl rfl rfl (by omega) (by first|omega|(simp <;> omega)))
 | (apply lk 7 rfl;first|exact Ck rfl rfl rfl|exact GK rfl rfl|exact BV rfl rfl rfl|exact BW rfl rfl)
 | (apply lk 8 rfl;first|exact aj rfl rfl (ax rfl rfl) (zm rfl) rfl aC aC|exact aj rfl rfl (ax rfl rfl) (vD rfl rfl) rfl aC aC|exact aj rfl rfl (ax rfl rfl) (rF rfl) rfl aC aC|exact aj rfl rfl (vE rfl rfl) (zm rfl) (List.nil_append _) aC aC|exact aj rfl rfl (vE rfl rfl) (vD rfl rfl) (List.nil_append _) aC aC|exact aj rfl rfl (vE rfl rfl) (rF rfl) (List.nil_append _) aC aC|exact aj rfl rfl (qS rfl) (zm rfl) (List.nil_append _) aC aC|exact aj rfl rfl (qS rfl) (vD rfl rfl) (List.nil_append _) aC aC|exact aj rfl rfl (qS rfl) (rF rfl) (List.nil_append _) aC aC)
 | (apply lk 10 rfl;first|exact GA rfl rfl rfl (IntWalk.i64_in _ (by omega))|exact GB rfl rfl rfl (IntWalk.i64_in _ (by omega))|exact IZ rfl rfl rfl|exact I0 rfl rfl rfl|exact I1 rfl rfl rfl|exact I2 rfl rfl rfl|exact IX rfl rfl rfl|exact IY rfl rfl rfl|exact GD rfl rfl rfl|exact GE rfl rfl rfl|exact GF rfl rfl rfl|exact GG rfl rfl rfl|exact GI rfl rfl rfl rfl rfl rfl rfl (by first|exact Im _ _|exact uc _ _|exact uc _ ⟨0,0⟩|exact uc ⟨0,0⟩ _|exact eq_tm _ _|exact eq_tm _ jO)|exact GJ rfl rfl rfl rfl rfl rfl rfl (by first|exact congrArg _ (Im _ _)|exact congrArg _ (uc _ _)|exact congrArg _ (uc _ ⟨0,0⟩)|exact congrArg _ (uc ⟨0,0⟩ _)|exact congrArg _ (eq_tm _ _)|exact congrArg _ (eq_tm _ jO)))
 | (apply lk 11 rfl;exact GH rfl rfl)
 | (apply lk 12 rfl;exact B0 rfl rfl rfl)
 | (apply lk 13 rfl;exact rJ rfl rfl rfl (by decide) rfl)
 | (apply lk 14 rfl;first|exact bg rfl rfl rfl rfl (by omega) (by first|omega|(simp <;> omega)) rfl|exact nZ rfl rfl rfl rfl (by omega) (by first|omega|(simp <;> omega)) rfl)
 | (apply lk 15 rfl;exact p8 rfl rfl rfl)
 | (apply lk 16 rfl;first|exact BX rfl rfl rfl|exact tB rfl rfl rfl)
 | (apply lk 17 rfl;exact BT rfl rfl rfl)
 | (apply lk 18 rfl;exact GO rfl rfl rfl rfl)
 | (apply lk 19 rfl;exact D3 rfl rfl rfl)
 | (apply lk 21 rfl;exact B5 rfl rfl)) (hd:o.dst=some t:=by rfl) (hg:s.gd ops o=some true:=by rfl) (hf:us.all s.f=true:=by rfl):DA P ops draw l ((R,av hs) :: acc) (s.app (some t) ⟨d,hs,us⟩) K→DA P ops draw (o :: l) acc s K:=fun h=>aM he.h hd hg hf h
theorem LV (he:LO P o s R ⟨d,hs,us⟩:=by (apply lk 4 rfl;exact BS rfl rfl rfl rfl rfl (Nat.le_of_ble_eq_true rfl) rfl rfl)) (hd:o.dst=none:=by rfl) (hg:s.gd ops o=some true:=by rfl) (hf:us.all s.f=true:=by rfl):DA P ops draw l ((R,av hs) :: acc) (s.app none ⟨d,hs,us⟩) K→DA P ops draw (o :: l) acc s K:=fun h=>bP he.h hd hg hf h
theorem sx (he:LOp P o s R ⟨d,hs,us⟩) (h:DA P ops draw l ((R,av hs) :: acc) (s.app (some t) ⟨d,hs,us⟩) K) (hd:o.dst=some t:=by rfl) (hg:s.gd ops o=some true:=by rfl) (hf:us.all s.f=true:=by rfl):DA P ops draw (o :: l) acc s K:=aM he hd hg hf h
theorem LW (he:LOp P o s R ⟨d,hs,us⟩) (h:DA P ops draw l ((R,av hs) :: acc) (s.app none ⟨d,hs,us⟩) K) (hd:o.dst=none:=by rfl) (hg:s.gd ops o=some true:=by rfl) (hf:us.all s.f=true:=by rfl):DA P ops draw (o :: l) acc s K:=bP he hd hg hf h
structure HbI (p q:Prop):Prop where
 h:p→q
def LG (_:Bool):Prop:=True
theorem LX:LG true:=trivial
theorem LY:LG false:=trivial
theorem Jf {j t:Nat} {want b:Bool} (h1:HbI (b=true) (DA P ops draw (o :: l) acc (s.app (some t) ⟨.b true,[],[]⟩) K)) (h2:HbI (b=false) (DA P ops draw (o :: l) acc (s.app (some t) ⟨.b false,[],[]⟩) K)) (hg:o.guard=some (j,want):=by rfl) (hj:(ops[j]?).bind (·.dst)=some t:=by rfl) (ht:s.t t = .b b:=by rfl) (_:LG b:=by (fail_if_success (with_reducible exact LX));(fail_if_success (with_reducible exact LY));exact trivial):DA P ops draw (o :: l) acc s K:=D4 hg hj ht h1.h h2.h
theorem Jg {x:Operand} {u e:Code} {b:Bool} (h1:HbI (b=true) (AW P nt Ks u Q s)) (h2:HbI (b=false) (AW P nt Ks e Q s)) (hx:s.ev x = .b b:=by rfl):AW P nt Ks (.cond x u e) Q s:=Gx hx h1.h h2.h
theorem xI {p q:Prop} (h:p→False:=by intro hb;first|(cases hb;done)|((try simp only [decide_eq_true_eq,decide_eq_false_iff_not,Bool.not_eq_true',Bool.not_eq_false',beq_iff_eq,bne_iff_ne,beq_eq_false_iff_ne,bne_eq_false_iff_eq,ne_eq,Decidable.not_not] at hb);first|contradiction|exact Bool.noConfusion (hb.symm.trans (by assumption):false=true)|exact Bool.noConfusion (hb.symm.trans (by assumption):true=false)|omega)):HbI p q:=⟨fun hp=>(h hp).elim⟩
theorem ae {p r q:Prop} (h:r→q) (hq:p→r:=by intro hb;(try simp only [decide_eq_true_eq,decide_eq_false_iff_not,Bool.not_eq_true',Bool.not_eq_false',beq_iff_eq,bne_iff_ne,beq_eq_false_iff_ne,bne_eq_false_iff_eq,ne_eq,Decidable.not_not] at hb);exact hb):HbI p q:=⟨fun hp=>h (hq hp)⟩
def D5 (ops:Array Oper) (fps:List (List Nat×List Nat)) (listed:Array Bool) (k:Nat):Bool :=
 match ops[k]? with
 | none=>false
 | some o=>(List.range ops.size).all fun j=>j == k || listed.getD j true || ((match ops[j]? with|none=>true|some o'=>o.apart ops o' && J6 (mG fps k) (mG fps j)) || Gs ops 6 k j)
theorem D6 (ops:Array Oper) (fps:List (List Nat×List Nat)) (listed:Array Bool) (k:Nat):D5 ops fps listed k=vq ops fps listed k:=by
 unfold D5 vq
 cases ops[k]? with
 | none=>rfl
 | some o =>
  dsimp only
  congr 1
  funext j
  rw [Bool.or_comm _ (Gs ops 6 k j),Bool.or_assoc (j == k || listed.getD j true)]
  cases ops[j]? <;> rfl
def GZ (ops:Array Oper) (fps:List (List Nat×List Nat)):Nat→Nat→Array Bool→Bool
 | 0,_,listed=>(Region.ready .any ops listed).isEmpty
 | fuel+1,k,listed=>(Region.ready .any ops listed).contains k && D5 ops fps listed k && GZ ops fps fuel (k+1) (listed.setIfInBounds k true)
theorem AM {ops:Array Oper} {fps:List (List Nat×List Nat)}:∀{n k:Nat} {listed:Array Bool},GZ ops fps n k listed=nF ops fps n k listed
 | 0,_,_=>rfl
 | n+1,k,listed=>by
  unfold GZ nF
  rw [D6,AM]
theorem LZ {acc:List (List Nat×List Nat)} (hB:GZ ops acc.reverse ops.size 0 (Array.replicate ops.size false)=true:=by kernel_rfl):K s→DA P ops true [] acc s K:=GM (AM▸hB)
theorem L0 {id:Nat} {l:List Oper} {y:Code} (hnt:fp nt l=true:=by kernel_rfl):(DA P l.toArray false l [] s fun s'=>AW P nt Ks y Q s')→AW P nt Ks (.seq (.region id l.toArray false) y) Q s:=Kf hnt
theorem L1 {id:Nat} {l:List Oper} {y:Code} (hm:P.follows .mixedOrders=true:=by kernel_rfl) (hnt:fp nt l=true:=by kernel_rfl):(DA P l.toArray true l [] s fun s'=>AW P nt Ks y Q s')→AW P nt Ks (.seq (.region id l.toArray true) y) Q s:=I5 hm hnt
theorem MA {id:Nat} {l:List Oper} (hnt:fp nt l=true:=by kernel_rfl):(DA P l.toArray false l [] s fun s'=>Q .normal s')→AW P nt Ks (.region id l.toArray false) Q s:=Ke hnt
theorem MB {id:Nat} {l:List Oper} (hm:P.follows .mixedOrders=true:=by kernel_rfl) (hnt:fp nt l=true:=by kernel_rfl):(DA P l.toArray true l [] s fun s'=>Q .normal s')→AW P nt Ks (.region id l.toArray true) Q s:=Ik hm hnt
structure QE (e:Exit) (Q:Exit→Mst→Prop) (F:Mst→Prop):Prop where
 h:∀s,F s→Q e s
section
variable {Q':Exit→Mst→Prop} {F K':Mst→Prop} {i j:Nat} {fn:Func} {hin:List (Nat×Box)} {res:TV} {hout:List (Nat×Option Box)}
theorem Kl (h:QE .ret Q' F):QE .ret (kn K' Q') F:=⟨h.h⟩
theorem Km (h:QE .ret Q' F):QE .ret (fv i Q') F:=⟨h.h⟩
theorem Kn:QE .ret (p7 P fn hin res hout) (p7 P fn hin res hout .ret):=⟨fun _ h=>h⟩
theorem Ko (h:QE (.exit j) Q' F):QE (.exit j) (kn K' Q') F:=⟨h.h⟩
theorem Kq (h:QE .normal Q' F):QE (.exit i) (fv i Q') F:=⟨fun s hs=>LP (h.h s hs)⟩
theorem Kr (hj:j.beq i=false) (h:QE (.exit j) Q' F):QE (.exit j) (fv i Q') F:=⟨fun s hs=>LQ hj (h.h s hs)⟩
theorem Kt:QE .normal (kn K' Q') K':=⟨fun _ h=>h⟩
theorem Ku (h:QE .normal Q' F):QE .normal (fv i Q') F:=⟨h.h⟩
theorem Kv:QE .normal (p7 P fn hin res hout) (p7 P fn hin res hout .normal):=⟨fun _ h=>h⟩
theorem qe {e:Exit} (h:QE e Q' F:=by repeat' (first|(with_reducible exact Kt)|(with_reducible exact Kn)|(with_reducible exact Kv)|(with_reducible apply Kl)|(with_reducible apply Km)|(with_reducible apply Ko)|(with_reducible apply Kq)|(with_reducible apply Ku)|(with_reducible apply Kr)|(show Nat.beq _ _=false;decide))):QE e Q' F:=h
theorem qx {e:Exit} (h:F s) (hq:QE e (kn K' Q') F:=by exact qe):kn K' Q' e s:=hq.h s h
theorem qy {e:Exit} (h:F s) (hq:QE e (fv i Q') F:=by exact qe):fv i Q' e s:=hq.h s h
end
theorem Jh {q1:Option Tmp} {q2:Op} {q3:TypeId} {q4:String} {q5:Array Edge} {q6:Nat×Bool} (h:DA P ops draw (⟨q1,q2,q3,q4,q5,some q6⟩ :: l) acc s K):DA P ops draw (⟨q1,q2,q3,q4,q5,some q6⟩ :: l) acc s K:=h
theorem L3 {K':Mst→Prop} {Q':Exit→Mst→Prop} {e:Exit} (h:kn K' Q' e s):kn K' Q' e s:=h
theorem L4 {i:Nat} {Q':Exit→Mst→Prop} {e:Exit} (h:fv i Q' e s):fv i Q' e s:=h
theorem L5 {p q:Prop} (h:HbI p q):HbI p q:=h
theorem Ji {y:Operand} {u v:Code} (h:AW P nt Ks (.cond y u v) Q s):AW P nt Ks (.cond y u v) Q s:=h
theorem af {g g':Prop} (h:g') (hs:g'→g:=by intro h;first|((with_reducible refine Kj ?_);revert h;first|(with_reducible exact I4)|(with_reducible exact LZ)|exact GN rfl rfl|exact Mz|exact LV)|((with_reducible refine Kk ?_);revert h;first|(with_reducible exact L0)|(with_reducible exact L1)|(with_reducible exact vy)|(with_reducible exact DI)|(with_reducible exact IV)|(with_reducible exact Gw)|(with_reducible exact Gv)|(with_reducible exact MA)|(with_reducible exact MB))|((with_reducible refine L3 ?_);exact qx h)|((with_reducible refine L4 ?_);exact qy h)):g:=hs h
theorem ah {g g1 g2:Prop} (h1:g1) (h2:g2) (hs:g1→g2→g:=by intro h1 h2;first|((with_reducible refine Jh ?_);exact Jf h1 h2)|((with_reducible refine Ji ?_);exact Jg h1 h2)):g:=hs h1 h2
theorem ai {g:Prop} (hs:g:=by (with_reducible refine L5 ?_);exact xI):g:=hs
end
section
variable {P:Program} {nt:Nat} {Ks:List Nat} {s:Mst} {K:Mst→Prop} {ops:Array Oper} {draw:Bool} {o:Oper} {l:List Oper} {acc:List (List Nat×List Nat)} {t:Nat}
theorem ao {U:List Nat} {ts:List (Nat×TV)} {hs:List (Nat×Box)} (q:Nat→Nat) (hok:IW U ts hs q Ks=true:=by rfl) (ht:Gy s q (fun j=>∀k,g6 hs k≠none→q k≠j) ts:=by repeat' (first|exact trivial|exact jw rfl|exact jw (congrArg TV.i (by omega))|exact ⟨_,rfl,gh rfl⟩|exact eI rfl|exact .any _|exact .froz _ _ _ _ rfl (qQ rfl)|exact .frozc _ _ _ _ rfl (qQ rfl)|exact .ocut _ _ _ _ rfl|exact .nil _|exact .full _ _|refine .v ?_|refine .one ?_|refine .ag ?_|refine ⟨_,rfl,?_⟩|refine ⟨?_,?_⟩|refine .box _ ?_)) (hh:Gz s q (fun j=>∀k,g6 hs k≠none→q k≠j) hs:=by repeat' (first|exact trivial|exact jw rfl|exact jw (congrArg TV.i (by omega))|exact ⟨_,rfl,gh rfl⟩|exact eI rfl|exact .any _|exact .froz _ _ _ _ rfl (qQ rfl)|exact .frozc _ _ _ _ rfl (qQ rfl)|exact .ocut _ _ _ _ rfl|exact .nil _|exact .full _ _|refine .v ?_|refine .one ?_|refine .ag ?_|refine ⟨_,rfl,?_⟩|refine ⟨?_,?_⟩|refine .box _ ?_)):Le nt Ks s (bH U ts hs):=DJ q hok ht hh
theorem aX {f:FuncId} {fn:Func} {code:Code} {args:List V0} {hin:List (Nat×Box)} {us:List Nat} {res:TV} {hout:List (Nat×Option Box)} (hf:P.funcs[f]? = some fn) (h:AW P fn.ntmps (av hin) code (p7 P fn hin res hout) (J7 args hin)) (hb:fn.body=some code:=by exact rfl) (hen:∀(vs:Array Value) (w:World),(callFunc f vs).run P w = .ok (.enter f vs) w:=by exact fun b W=>by kernel_rfl) (hok:AC args hin us res hout=true:=by exact rfl) (hnt:args.length≤fn.ntmps:=by exact Nat.le_of_ble_eq_true rfl):FSpec P f args hin us res hout:=gg hf hb hen hok hnt h
theorem zy {R us:List Nat} {ot:Option Nat} {d:TV} {hs:List (Nat×Option Box)} (he:LOp P o s R ⟨d,hs,us⟩) (hd:o.dst=ot) (hg:s.gd ops o=some true) (hf:us.all s.f=true) (h:DA P ops draw l ((R,av hs) :: acc) (s.app ot ⟨d,hs,us⟩) K):DA P ops draw (o :: l) acc s K:=by
 cases ot with
 | none=>exact bP he hd hg hf h
 | some t=>exact aM he hd hg hf h
theorem cB {f:FuncId} {xs:Array Operand} {ts:Array TypeId} {args:List V0} {ot:Option Nat} {res:TV} (R:List Nat) (hs:FSpec P f args [] [] res []) (h:DA P ops draw l ((R,av ([]:List (Nat×Option Box))) :: acc) (s.app ot ⟨res,[],[]⟩) K) (ho:o.op = .call { callee:=.value (.func f),args:=xs,argTypes:=ts }:=by rfl) (hok:AC args [] [] res []=true:=by rfl) (hb:res.isSc=true:=by rfl) (ha:All2 (fun x d=>AR s R (s.ev x) d) xs.toList args:=by (repeat' (first|exact trivial|exact .same _|refine ⟨⟨_,rfl,?_⟩,?_⟩|refine .ag ?_|refine .one ?_|exact .own rfl rfl|exact .ocut rfl rfl|exact .full|exact .nil|refine ⟨?_,?_⟩));first|done|fail) (hd:o.dst=ot:=by first|exact (rfl:_=some _)|exact (rfl:_=none)) (hg:s.gd ops o=some true:=by rfl) (hf:[].all s.f=true:=by rfl):DA P ops draw (o :: l) acc s K  :=zy (Ci R hs ho hok hb ha) hd hg hf h
theorem cC {f:FuncId} {xs:Array Operand} {ts:Array TypeId} {args:List V0} {ot:Option Nat} {res:TV} (ks:List Nat) (hs:FSpec P f args [] [] res []) (h:DA P ops draw l ((ks,av (po ks)) :: acc) (s.app ot ⟨res,po ks,[]⟩) K) (ho:o.op = .call { callee:=.value (.func f),args:=xs,argTypes:=ts }:=by rfl) (hok:AC args [] [] res []=true:=by rfl) (hks:ks.all (fun k=>(s.h k).isSome)=true:=by rfl) (ha:All2 (fun x d=>AR s ks (s.ev x) d) xs.toList args:=by (repeat' (first|exact trivial|exact .same _|refine ⟨⟨_,rfl,?_⟩,?_⟩|refine .ag ?_|refine .one ?_|exact .own rfl rfl|exact .ocut rfl rfl|exact .full|exact .nil|refine ⟨?_,?_⟩));first|done|fail) (hd:o.dst=ot:=by first|exact (rfl:_=some _)|exact (rfl:_=none)) (hg:s.gd ops o=some true:=by rfl) (hf:[].all s.f=true:=by rfl):DA P ops draw (o :: l) acc s K  :=zy (Cj ks hs ho hok hks ha) hd hg hf h
theorem cH {f:FuncId} {xs:Array Operand} {ts:Array TypeId} {args:List V0} {ot:Option Nat} {res:TV} {hin:List (Nat×Box)} {us:List Nat} {hout:List (Nat×Option Box)} (q:Nat→Nat) (hs:FSpec P f args hin us res hout) (h:DA P ops draw l (((av hin).map q,av (fu q hout)) :: acc) (s.app ot ⟨res.ren q,fu q hout,us.map q⟩) K) (ho:o.op = .call { callee:=.value (.func f),args:=xs,argTypes:=ts }:=by rfl) (ha:All2 (fun x d=>s.ev x = .v (V0.ren q d)) xs.toList args:=by (repeat' (first|exact trivial|refine ⟨rfl,?_⟩));first|done|fail) (hn:eW ((av hin++us).map q)=true:=by rfl) (hh:AD s q hin:=by (repeat' (first|exact trivial|refine ⟨rfl,?_⟩));first|done|fail) (hd:o.dst=ot:=by first|exact (rfl:_=some _)|exact (rfl:_=none)) (hg:s.gd ops o=some true:=by rfl) (hf:(us.map q).all s.f=true:=by rfl):DA P ops draw (o :: l) acc s K  :=zy (DK hs q ho ha hn hh) hd hg hf h
theorem D7 {fn:Func} {hin:List (Nat×Box)} {hout:List (Nat×Option Box)} {e:Exit} (q:Nat→Nat) (he:e = .normal∨e = .ret:=by first|exact .inl rfl|exact .inr rfl) (hr:fn.results.toList=[]:=by rfl)  (hq:(av hin).all (fun k=>(q k).beq k)=true:=by rfl) (hn:eW ((av (hout.filter fun x=>x.2.isSome)).map q)=true:=by rfl) (hh:qK s q (fun j=>∀k,hput hout (fun _=>none) k≠none→q k≠j) hout:=by (repeat' (first|exact trivial|exact ⟨_,rfl,gh rfl⟩|exact eI rfl|exact .froz _ _ _ _ rfl (eJ rfl)|exact .frozc _ _ _ _ rfl (eJ rfl)|exact .ocut _ _ _ _ rfl|exact .nil _|refine ⟨_,rfl,?_⟩|refine ⟨?_,?_⟩|refine .box _ ?_));first|done|fail):p7 P fn hin (.tup []) hout e s:=I9 q he hr hq hn hh
theorem aE {fn:Func} {hin:List (Nat×Box)} {r1:ResultVar} {x1:V0} {res:TV} {hout:List (Nat×Option Box)} {e:Exit} (q:Nat→Nat) (h:TVLe s q (fun j=>∀k,hput hout (fun _=>none) k≠none→q k≠j) (.v x1) res) (he:e = .normal∨e = .ret:=by first|exact .inl rfl|exact .inr rfl) (hr:fn.results.toList=[r1]:=by rfl) (h1:RV P s r1 x1:=by first|exact .tmp rfl|exact .row rfl rfl rfl|exact .one rfl rfl) (hq:(av hin).all (fun k=>(q k).beq k)=true:=by rfl) (hn:eW ((av (hout.filter fun x=>x.2.isSome)).map q)=true:=by rfl) (hh:qK s q (fun j=>∀k,hput hout (fun _=>none) k≠none→q k≠j) hout:=by (repeat' (first|exact trivial|exact ⟨_,rfl,gh rfl⟩|exact eI rfl|exact .froz _ _ _ _ rfl (eJ rfl)|exact .frozc _ _ _ _ rfl (eJ rfl)|exact .ocut _ _ _ _ rfl|exact .nil _|refine ⟨_,rfl,?_⟩|refine ⟨?_,?_⟩|refine .box _ ?_));first|done|fail):p7 P fn hin res hout e s:=I6 q he hr h1 hq hn hh h
theorem iG {fn:Func} {hin:List (Nat×Box)} {r1:ResultVar} {x1:V0} {r2:ResultVar} {x2:V0} {res:TV} {hout:List (Nat×Option Box)} {e:Exit} (q:Nat→Nat) (h:TVLe s q (fun j=>∀k,hput hout (fun _=>none) k≠none→q k≠j) (.tup [x1,x2]) res) (he:e = .normal∨e = .ret:=by first|exact .inl rfl|exact .inr rfl) (hr:fn.results.toList=[r1,r2]:=by rfl) (h1:RV P s r1 x1:=by first|exact .tmp rfl|exact .row rfl rfl rfl|exact .one rfl rfl) (h2:RV P s r2 x2:=by first|exact .tmp rfl|exact .row rfl rfl rfl|exact .one rfl rfl) (hq:(av hin).all (fun k=>(q k).beq k)=true:=by rfl) (hn:eW ((av (hout.filter fun x=>x.2.isSome)).map q)=true:=by rfl) (hh:qK s q (fun j=>∀k,hput hout (fun _=>none) k≠none→q k≠j) hout:=by (repeat' (first|exact trivial|exact ⟨_,rfl,gh rfl⟩|exact eI rfl|exact .froz _ _ _ _ rfl (eJ rfl)|exact .frozc _ _ _ _ rfl (eJ rfl)|exact .ocut _ _ _ _ rfl|exact .nil _|refine ⟨_,rfl,?_⟩|refine ⟨?_,?_⟩|refine .box _ ?_));first|done|fail):p7 P fn hin res hout e s:=I7 q he hr h1 h2 hq hn hh h
theorem eR {fn:Func} {hin:List (Nat×Box)} {r1:ResultVar} {x1:V0} {r2:ResultVar} {x2:V0} {r3:ResultVar} {x3:V0} {res:TV} {hout:List (Nat×Option Box)} {e:Exit} (q:Nat→Nat) (h:TVLe s q (fun j=>∀k,hput hout (fun _=>none) k≠none→q k≠j) (.tup [x1,x2,x3]) res) (he:e = .normal∨e = .ret:=by first|exact .inl rfl|exact .inr rfl) (hr:fn.results.toList=[r1,r2,r3]:=by rfl) (h1:RV P s r1 x1:=by first|exact .tmp rfl|exact .row rfl rfl rfl|exact .one rfl rfl) (h2:RV P s r2 x2:=by first|exact .tmp rfl|exact .row rfl rfl rfl|exact .one rfl rfl) (h3:RV P s r3 x3:=by first|exact .tmp rfl|exact .row rfl rfl rfl|exact .one rfl rfl) (hq:(av hin).all (fun k=>(q k).beq k)=true:=by rfl) (hn:eW ((av (hout.filter fun x=>x.2.isSome)).map q)=true:=by rfl) (hh:qK s q (fun j=>∀k,hput hout (fun _=>none) k≠none→q k≠j) hout:=by (repeat' (first|exact trivial|exact ⟨_,rfl,gh rfl⟩|exact eI rfl|exact .froz _ _ _ _ rfl (eJ rfl)|exact .frozc _ _ _ _ rfl (eJ rfl)|exact .ocut _ _ _ _ rfl|exact .nil _|refine ⟨_,rfl,?_⟩|refine ⟨?_,?_⟩|refine .box _ ?_));first|done|fail):p7 P fn hin res hout e s:=I8 q he hr h1 h2 h3 hq hn hh h
theorem ab {p:Prop} (h:p:=by repeat' (first|exact trivial|exact jw rfl|exact eI rfl|exact .froz _ _ _ _ rfl (eJ rfl)|exact .frozc _ _ _ _ rfl (eJ rfl)|exact .ocut _ _ _ _ rfl|exact .nil _|exact .full _ _|exact .any _|refine .v ?_|refine .tup ?_|refine .one ?_|refine .ag ?_|refine ⟨?_,?_⟩)):p:=h
theorem gz {fn:Func} {t:Nat} {v v':Value} {e:Exit} (h:v=v') (he:e = .normal∨e = .ret:=by first|exact .inl rfl|exact .inr rfl) (hr:fn.results.toList=[.tmp t]:=by rfl) (hx:s.t t = .c (.sc v):=by rfl):p7 P fn [] (.c (.sc v')) [] e s:=zn he hr hx h
end
section
variable {P:Program} {nt:Nat} {Ks:List Nat} {Q:Exit→Mst→Prop} {s:Mst}
theorem ul (id:Nat) {l:List Oper} {dr:Bool} {y:Code} (h:AW P nt Ks (.seq (.region id l.toArray dr) y) Q s):AW P nt Ks (.seq (.region id l.toArray dr) y) Q s:=h
theorem um (id:Nat) {l:List Oper} {dr:Bool} (h:AW P nt Ks (.region id l.toArray dr) Q s):AW P nt Ks (.region id l.toArray dr) Q s:=h
theorem D8 {x:Code} {α:Type} {ty e:TypeId} {E:El α} {l:List α} {cs new:List D} (k0 off k:Nat) (h0:s.h k0=some (.box ty cs)) (hc0:cs[off]? = some (.own k)) (hk:s.h k=some (.arr e E l)) (hn:cs.set off (.ocut k)=new)
  (h:AW P nt Ks x Q (s.app none ⟨.c .any,[(k0,some (.box ty new))],[]⟩)):AW P nt Ks x Q s:=by
 intro c ρ a w hc hK hr
 subst hn
 obtain ⟨g,vs,hg,hB,hA,h1⟩:=hr.hp k0 _ h0
 refine h c ρ a w hc hK (hr.setBox (dst:=none) (v:=undef) (fun d hd=>by cases hd) h0 hg ⟨rfl,rfl,rfl,Nat.le_refl _,fun _ _ _=>rfl⟩ hB (hA.setAt hc0 fun u hu=>?_) h1 fun k' hh=>?_)
 ·have hu:u=ρ k:=hu
  rw [hu]
  exact nI hr hk rfl
 ·obtain ⟨d,hd,hd2⟩:=List.any_eq_true.1 hh
  rcases List.mem_or_eq_of_mem_set hd with hd|rfl
  ·exact hr.nfb h0 (by simp only [Box.has];exact List.any_eq_true.2 ⟨d,hd,hd2⟩)
  ·simp only [D.has] at hd2
   have:k=k':=Nat.eq_of_beq_eq_true hd2
   subst this
   exact hr.nfh hk
end
theorem xJ {s:Mst} {α:Type} {E:El α} [J:Dp E] {x:Operand} {k n:Nat} {e:TypeId} {cs:List D} (m:List α) (hx:s.ev x = .c (.slb k n)) (hk:s.h k=some (.box e cs)) (hm:All2 NR cs (m.flatMap J.deep)) (hn:m.length=n):Ij s E x m [k]:=fun c st ρ a w hr he h2=>by
 have hv:=hr.ev x
 rw [he,hx] at hv
 obtain ⟨g,hg,hv⟩:=hv
 subst hn
 obtain ⟨vs,hB,hA,_⟩:=hr.box ((h2 k (by simp [aF])).trans hk) hg
 exact ⟨_,_,vs,hv,fZ (NR.reps hm hA),fun _=>⟨g,0,rfl,fun j u hu=>by rw [Nat.zero_add];exact hB.cellx j (by simpa using hu)⟩⟩
theorem xK {s:Mst} {α:Type} {E:El α} [J:Dp E] {x:Operand} {k n:Nat} {e:TypeId} {cs:List D} (m:List α) (hx:s.ev x = .c (.slb k n)) (hk:s.h k=some (.box e cs)) (hn:m.length=n) (hm:All2 NR cs (m.flatMap J.deep):=by (repeat' (first|exact trivial|exact .same _|exact .nil|refine ⟨?_,?_⟩));first|done|fail):Ij s E x m [k]:=xJ m hx hk hm hn
instance (d:Nat):Dp (qP (d+1)) where
 deep:=Ex.d d
 get:=by
  rintro w F ρ x cs ⟨A,c,rfl,h1,h2,h3⟩
  exact ⟨rfl,rfl,rfl,rfl,⟨A,c,rfl,⟨h1,h2⟩,h3⟩,trivial⟩
 put:=by
  intro w F ρ x cs h
  match cs,h with
  | [_,_,_,_,_],⟨rfl,rfl,rfl,rfl,⟨A,c,rfl,h1,h3⟩,_⟩=>exact ⟨A,c,rfl,h1.1,h1.2,h3⟩
 nok:=fun _ _=>rfl
theorem eq_tm (p q:Tm):AE [.string p.name,.int .i64 p.am.mode,.int .i64 p.am.units] [.string q.name,.int .i64 q.am.mode,.int .i64 q.am.units]=decide (p=q):=by
 obtain ⟨a,b,c⟩:=p
 obtain ⟨x,y,z⟩:=q
 rw [Bool.eq_iff_iff]
 simp [AE,J8]
 intros
 obtain ⟨a⟩:=a
 obtain ⟨x⟩:=x
 rw [show ((ByteArray.mk a) == (ByteArray.mk x))=(a == x) from rfl,beq_iff_eq]
 simp
instance:EQ prog 31 [1,0,0]:=⟨by kernel_rfl,fun w a b ha hb=>by
 obtain ⟨a1,a2,a3,rfl⟩:=GP (pi ha)
 obtain ⟨b1,b2,b3,rfl⟩:=GP (pi hb)
 simp only [List.map_cons,List.map_nil,List.cons.injEq,and_true] at ha hb
 obtain ⟨x1,rfl⟩:=Ki ha.1
 obtain ⟨x2,rfl⟩:=nM ha.2.1
 obtain ⟨x3,rfl⟩:=nM ha.2.2
 obtain ⟨y1,rfl⟩:=Ki hb.1
 obtain ⟨y2,rfl⟩:=nM hb.2.1
 obtain ⟨y3,rfl⟩:=nM hb.2.2
 rw [eq_tm ⟨x1,⟨x2,x3⟩⟩ ⟨y1,⟨y2,y3⟩⟩]
 exact Gp ⟨x1,⟨x2,x3⟩⟩ ⟨y1,⟨y2,y3⟩⟩ w⟩
instance:Dp eh:=ed _ _ _ _ _
instance:Dp dS:=ed _ _ _ _ _
abbrev iV (n:Int):V0:=.one (.sc (.int .i64 n))
theorem lO {c:Ctx} {s:Mst} {ρ:Nat→Value} {a:Act} {w:World} (hr:Rp c s ρ a w) {t i:Nat} {cs:List D} {d:Nat} {l:List Ex} (h:s.t t = .v (.ag cs)) (hi:cs[i]? = some (.sl (qP d) l)):l.length≤9223372036854775807∧(0<l.length→∃e,d=e+1):=by
 refine ⟨dQ hr h hi,fun h0=>?_⟩
 cases d with
 | succ e=>exact ⟨e,rfl⟩
 | zero =>
  have:=hr.tmp t
  rw [h] at this
  obtain ⟨vs,_,h2⟩:=this
  obtain ⟨v,_,A,cap,rfl,_,hR⟩:=h2.get hi
  obtain ⟨g,off,cs',_,_,hc,_⟩:=hR.getx h0 rfl
  exact hc.elim
theorem uo:∀{l:List (Nat×Option Box)} {h h':Nat→Option Box} {n:Nat},h n=h' n→hput l h n=hput l h' n
 | [],_,_,_,e=>e
 | (k,b) :: l,h,h',n,e=>by simp only [hput];rw [uo e]
theorem FSpec.nil0 {P:Program} {f:FuncId} {args:List V0} {α:Type} {e:TypeId} {E:El α} {us:List Nat} {res:TV} {hout:List (Nat×Option Box)} (h:FSpec P f (.one (.own 0) :: args) [(0,.arr e E [])] us res ((0,none) :: hout)) (hu:aF us 0=false) (ha:∀(q:Nat→Nat) k,args.all (fun d=>!(V0.ren q d).has k)=true):FSpec P f (.one (.sc (.slice none 0 0)) :: args) [] (0 :: us) res ((0,none) :: hout):=by
 refine ⟨h.en,fun q c st ρ a w vs hr hq hargs hin hfree=>?_⟩
 have hf0:st.f (q 0)=true:=hfree 0 (by simp [aF])
 have hne:∀{k},k≠q 0→(q 0).beq k=false:=fun hk=>by
  cases hb:(q 0).beq _ with
  | false=>rfl
  | true=>exact absurd (Nat.eq_of_beq_eq_true hb).symm hk
 have hkk:∀k':Nat,aA [(q 0,some (Box.arr e E ([]:List α)))] k'=true→k'=q 0:=fun k' h=>by
  simp only [aA,Bool.or_false] at h
  exact (Nat.eq_of_beq_eq_true h).symm
 have h2:=hr.app (ρ':=upd ρ (q 0) (.slice none 0 0)) (w':=w) (dst:=none) (v:=undef) (e:=⟨.c .any,[(q 0,some (.arr e E []))],[q 0]⟩) (fun d hd=>by cases hd)
  (fun k' hk=>by have h9:k'=q 0:=(by simp [aF] at hk;exact hk.symm);subst h9;exact ⟨hf0,by simp [aA]⟩)
  (fun k' hk=>dB (by simpa [aF] using hk)) (fun k' hk=>.inl (by rw [hkk k' hk];simp [aF])) (Frx.refl _ _)
  (fun k' bx g hk _ hg=>by rw [hkk k' hk,aL] at hg;cases hg) (fun k1 k2 b b' g h1 h2 _ _ _ _=>by rw [hkk k1 h1,hkk k2 h2]) (fun k' hk=>by simp [TV.has,V0.has,D.has] at hk) (fun k1 k2 bx hk hb hx=>by
   rw [hkk k2 hk] at hb
   simp only [Go.Proofs.YtdaajdflefnjfaaGreat.hput,Nat.beq_refl,cond_true,Option.some.injEq] at hb
   subst hb
   simp [Box.has] at hx)
  (fun k' bx hk hb=>by
   rw [hkk k' hk] at hb ⊢
   simp only [Go.Proofs.YtdaajdflefnjfaaGreat.hput,Nat.beq_refl,cond_true,Option.some.injEq] at hb
   subst hb
   rw [aL]
   exact ⟨[],World.ownsRow_nil _ _ _ _,rfl⟩)
  trivial
 match vs,hargs with
 | v :: vs,⟨hv,hvs⟩ =>
  have hv:v = .slice none 0 0:=hv
  subst hv
  refine (h.ca q c _ _ a w (.slice none 0 0 :: vs) h2 hq ⟨(aL _ _ _).symm,hvs.imp fun d u hd h5=>h5.mono (fun b hb=>⟨⟨hb.1,hb.2.1,fun k bx hk he=>?_⟩,rfl⟩) fun k hk=>?_⟩ (fun k b hb=>?_) fun k hk=>?_).mono ?_
  ·by_cases h9:k=q 0
   ·rw [h9,aL] at he;cases he
   ·rw [dB (hne h9)] at he
    refine hb.2.2 k bx ?_ he
    have hk:hput [(q 0,some (.arr e E []))] st.h k=some bx:=hk
    rwa [bR (by simp [aA,hne h9])] at hk
  ·have:=List.all_eq_true.1 (ha q k) d hd
   rw [hk] at this
   cases this
  ·cases k with
   | succ k=>cases hb
   | zero =>
    injection hb with hb
    subst hb
    show hput [(q 0,some (.arr e E []))] st.h (q 0)=_
    simp [Go.Proofs.YtdaajdflefnjfaaGreat.hput,Box.ren]
  ·have h7:q k≠q 0:=fun h8=>by
    have:=hq k 0 (by show (Nat.beq 0 k || aF us k)=true;rw [hk,Bool.or_true]) rfl h8
    subst this
    rw [hu] at hk
    cases hk
   show (st.f (q k) && !aF [q 0] (q k))=true
   rw [hfree k (by show (Nat.beq 0 k || aF us k)=true;rw [hk,Bool.or_true])]
   simp [aF,hne h7]
  ·rintro en w' ⟨v,he,hd⟩
   refine ⟨v,he,fun dst hdst=>?_⟩
   obtain ⟨ρ',h3⟩:=hd dst hdst
   refine ⟨ρ',?_⟩
   have hE:st.app dst ⟨res.ren q,fu q ((0,none) :: hout),(0 :: us).map q⟩=(st.app none ⟨.c .any,[(q 0,some (.arr e E []))],[q 0]⟩).app dst ⟨res.ren q,fu q ((0,none) :: hout),us.map q⟩:=by
    unfold Mst.app
    congr 1
    ·funext n
     show hput ((q 0,none) :: fu q hout) st.h n=hput ((q 0,none) :: fu q hout) (hput [(q 0,some (.arr e E []))] st.h) n
     simp only [hput]
     cases hb:(q 0).beq n with
     | true=>rfl
     | false=>exact uo (by simp [Go.Proofs.YtdaajdflefnjfaaGreat.hput,hb])
    ·funext n
     simp [aF,Bool.and_assoc]
   rw [hE]
   exact h3
def Jj (a b:Int):Nat→Int→Int
 | 0,_=>0
 | n+1,m=>bif dy m a && dy m b then m else Jj a b n (m+1)
theorem lP (m:Int):FSpec prog 84 [iV m] [] [] (.b (cl m)) []:=by
 unfold cl
 refine aX func84 ?_
 repeat' (first
  | refine ah ?_ ?_
  | refine af ?_
  | exact ai|refine ae fun hb=>?_)
 all_goals (refine gz ?_;simp [*])
theorem lQ (x:Am):FSpec prog 38 [x.a] [] [] (.b (aZ x)) []:=by
 have h0:cl 0=false:=rfl
 unfold aZ
 refine aX func38 ?_
 repeat' (first
  | refine ah ?_ ?_
  | refine aa 9 rfl (cB [] (lP x.mode) ?_)
  | refine af ?_
  | exact ai|refine ae fun hb=>?_)
 all_goals (refine gz ?_;first|(simp [*];done)|(simp [*] <;> rfl))
theorem AN (a b:Int):FSpec prog 112 [iV a,iV b] [] [] (.b (dy a b)) []:=by
 unfold dy
 refine aX func112 ?_
 repeat' (first
  | refine ah ?_ ?_
  | (refine aa 9 rfl ?_;first
   | (refine cB [] (lP a) ?_)
   | (refine cB [] (lP b) ?_))
  | refine af ?_
  | exact ai|refine ae fun hb=>?_)
 all_goals (refine gz ?_;first|(simp [*];done)|(simp_all [cl] <;> rfl))
theorem Kw (a b:Int):FSpec prog 252 [iV a,iV b] [] [] (.b (vd a b)) []:=by
 unfold vd
 refine aX func252 ?_
 repeat' (first
  | refine ah ?_ ?_
  | (refine aa 9 rfl ?_;first
   | (refine cB [] (lP a) ?_)
   | (refine cB [] (lP b) ?_))
  | refine af ?_
  | exact ai|refine ae fun hb=>?_)
 all_goals (refine gz ?_;first|(simp [*];done)|(simp_all [cl] <;> rfl))
theorem L6 (a b:Int):FSpec prog 245 [iV a,iV b] [] [] (.i (vI a b)) []:=by
 obtain ⟨v,hv⟩:∃v,vI a b=v:=⟨_,rfl⟩
 rw [hv]
 refine aX func245 ?_
 repeat' (first
  | refine ah ?_ ?_
  | refine af ?_
  | exact ai|refine ae fun hb=>?_)
 refine ak (fun x:Nat×Int=>x.1≤5∧x.2+x.1=6∧Jj a b x.1 x.2=v) (fun x=>bH [] [(0,.i a),(1,.i b),(5,.i x.2)] []) (fun x=>x.1) (5,1) ⟨by decide,rfl,hv⟩ (by exact ao (qf [])) ?_
 rintro ⟨n,m⟩ ⟨h5,hm,hs⟩
 dsimp only at *
 cases n with
 | zero =>
  repeat' (first
   | refine ah ?_ ?_
   | refine af ?_
   | exact ai|refine ae fun hb=>?_)
  exact gz (congrArg _ hs)
 | succ n =>
  unfold Jj at hs
  repeat' (first
   | refine ah ?_ ?_
   | (refine aa 9 rfl ?_;first
    | (refine cB [] (AN m a) ?_)
    | (refine cB [] (AN m b) ?_))
   | refine af ?_
   | exact ai|refine ae fun hb=>?_)
  ·refine gz (congrArg _ ?_)
   rw [←hs];simp [*]
  all_goals
   refine ⟨(n,m+1),⟨by dsimp only;omega,by dsimp only;omega,?_⟩,by dsimp only;omega,?_⟩
   ·rw [←hs];simp [*]
   ·exact ao (qf [])
theorem lR (r:Rs):FSpec prog 182 [r.a] [] [] (.b (bb r)) []:=by
 unfold bb
 refine aX func182 ?_
 repeat' (first
  | refine ah ?_ ?_
  | refine af ?_
  | exact ai|refine ae fun hb=>?_)
 all_goals (refine gz ?_;simp [*])
theorem fg (x:Am):FSpec prog 37 [x.a] [] [] (.b (aO x)) []:=by
 refine aX func37 ?_
 repeat' (first
  | refine ah ?_ ?_
  | refine af ?_
  | exact ai|refine ae fun hb=>?_)
 exact gz rfl
theorem ii (r:Rs) (x:Am):FSpec prog 172 [r.a,x.a] [] [] (.b (aH r x)) []:=by
 unfold aH
 refine aX func172 ?_
 repeat' (first
  | refine ah ?_ ?_
  | (refine aa 9 rfl ?_;first
   | (refine cB [] (lR r) ?_)
   | (refine cB [] (lP x.mode) ?_))
  | refine af ?_
  | exact ai|refine ae fun hb=>?_)
 all_goals (refine gz ?_;simp [*] <;> rfl)
theorem r8 (r:Rs) (x:Am):FSpec prog 244 [r.a,x.a] [] [] (.b (cQ r x)) []:=by
 unfold cQ
 refine aX func244 ?_
 repeat' (first
  | refine ah ?_ ?_
  | (refine aa 9 rfl ?_;first
   | (refine cB [] (lR r) ?_)
   | (refine cB [] (fg x) ?_)
   | (refine cB [] (ii r x) ?_))
  | refine af ?_
  | exact ai|refine ae fun hb=>?_)
 all_goals (refine gz ?_;simp [*])
theorem dq (r:Rs) (x y:Am):FSpec prog 225 [r.a,x.a,y.a] [] [] (.b (bq r x y)) []:=by
 unfold bq
 refine aX func225 ?_
 repeat' (first
  | refine ah ?_ ?_
  | (refine aa 9 rfl ?_;first
   | (refine cB [] (r8 r x) ?_)
   | (refine cB [] (r8 r y) ?_)
   | (refine cB [] (fg y) ?_)
   | (refine cB [] (fg x) ?_)
   | (refine cB [] (AN x.mode y.mode) ?_))
  | refine af ?_
  | exact ai|refine ae fun hb=>?_)
 all_goals (refine gz ?_;simp [*])
theorem D9 (r:Rs) (x y:Am):FSpec prog 226 [r.a,x.a,y.a] [] [] (.v (bV r x y).a) []:=by
 obtain ⟨v,hv⟩:∃v,bV r x y=v:=⟨_,rfl⟩
 rw [hv]
 unfold bV at hv
 refine aX func226 ?_
 repeat' (first
  | refine ah ?_ ?_
  | (refine aa 9 rfl ?_;first
   | (refine cB [] (r8 r x) ?_)
   | (refine cB [] (r8 r y) ?_)
   | (refine cB [] (dq r x y) ?_)
   | (refine cB [] (dq r y x) ?_)
   | (refine cB [] (L6 x.mode y.mode) ?_))
  | refine af ?_
  | exact ai|refine ae fun hb=>?_)
 all_goals
  simp only [*,Bool.and_true,Bool.and_false,Bool.true_and,cond_true,cond_false] at hv
  subst hv
  refine aE (qf []) ?_;exact ab
theorem Jk {r:Rs} {a:Am} (hp:cQ r a=true) (h:r.kind=2):0≤a.units∧a.units≤8:=(wR hp (by omega)).2
theorem zz (a b:Am) (l:List Am):pS a (b :: l)=((!aO a && !aO b && !vd a.mode b.mode) || pS a l):=rfl
theorem G0 (r:Rs) (l:List Am):FSpec prog 249 [r.a,.one (.sl Ge l)] [] [] (.b (np r l)) []:=by
  obtain ⟨v,hv⟩:∃v,np r l=v:=⟨_,rfl⟩
  rw [hv]
  unfold np at hv
  refine aX func249 ?_
  refine aR (fun c ρ a w hr=>cu (t:=1) hr rfl) (fun hl1=>?_)
  cases hs:bb r with
  | false =>
    rw [hs] at hv
    obtain rfl:false=v:=hv
    repeat' (first
      | refine ah ?_ ?_
      | refine aa 9 rfl (cB [] (lR r) ?_)
      | refine af ?_
      | exact ai|(refine ae fun hb=>?_;first|(simp [hs] at hb;done)|skip)
      | (refine aE (qf []) ?_;exact ab))
  | true =>
    rw [hs,Bool.true_and] at hv
    have hu:0≤r.units∧r.units≤8:=by have:=da hs;omega
    repeat' (first
      | refine ah ?_ ?_
      | refine aa 9 rfl (cB [] (lR r) ?_)
      | refine af ?_
      | exact ai|(refine ae fun hb=>?_;first|(simp [hs] at hb;done)|skip))
    refine ak (fun x:Nat×Int=>x.1≤l.length∧0≤x.2∧x.2≤r.units∧iL r x.2 (l.take x.1) (l.drop x.1)=v) (fun x=>bH [2] [(1,.c (.sl Ge l)),(2,.c (.ptr 2 0)),(5,.i x.2),(6,.i x.1)] [(2,.box 159 [.sc (.string r.name),.sc (.int .i64 r.kind),.sc (.int .i64 r.units),.sc (.int .i64 r.home)])]) (fun x=>l.length-x.1) (0,0) ⟨Nat.zero_le _,Int.le_refl _,hu.1,hv⟩ (by exact ao (qf [])) ?_
    rintro ⟨i,s⟩ ⟨hi,h0,h1,hs⟩
    dsimp only at *
    by_cases hlt:i<l.length
    case neg =>
      rw [List.drop_eq_nil_of_le (by omega)] at hs
      obtain rfl:true=v:=hs
      repeat' (first
        | refine ah ?_ ?_
        | refine af ?_
        | exact ai|refine ae fun hb=>?_
        | (refine aE (qf []) ?_;exact ab))
    rw [List.drop_eq_getElem_cons hlt,pT,←List.take_succ_eq_append_getElem hlt] at hs
    cases hp:cQ r l[i] with
    | false =>
      rw [hp] at hs
      obtain rfl:false=v:=hs
      repeat' (first
        | refine ah ?_ ?_
        | refine aa 9 rfl (cB [] (r8 r l[i]) ?_)
        | refine af ?_
        | exact ai|(refine ae fun hb=>?_;first|(simp [hp] at hb;done)|skip)
        | (refine aE (qf []) ?_;exact ab))
    | true =>
      rw [hp,Bool.true_and] at hs
      by_cases hk:r.kind=2
      · have h2:=Jk hp hk
        rw [if_pos hk] at hs
        repeat' (first
          | refine ah ?_ ?_
          | refine aa 9 rfl (cB [] (r8 r l[i]) ?_)
          | refine af ?_
          | exact ai|(refine ae fun hb=>?_;first|(simp [hp] at hb;done)|skip))
        · rw [decide_eq_false (by omega)] at hs
          obtain rfl:false=v:=hs
          refine aE (qf []) ?_;exact ab
        · rw [decide_eq_true (by omega),Bool.true_and] at hs
          refine ⟨(i+1,s+l[i].units),⟨by dsimp only;omega,by dsimp only;omega,by dsimp only;omega,hs⟩,by dsimp only;omega,?_⟩
          exact ao (qf [])
      · rw [if_neg hk] at hs
        obtain ⟨c,hc⟩:∃c,pS l[i] (l.take i)=c:=⟨_,rfl⟩
        rw [hc] at hs
        have hlen:(l.take i).length=i:=by simp;omega
        repeat' (first
          | refine ah ?_ ?_
          | refine aa 9 rfl (cB [] (r8 r l[i]) ?_)
          | refine af ?_
          | exact ai|(refine ae fun hb=>?_;first|(simp [hp] at hb;done)|skip))
        refine ak (fun k=>k≤i∧pS l[i] ((l.take i).drop k)=c) (fun k=>bH [2] [(1,.c (.sl Ge l)),(2,.c (.ptr 2 0)),(5,.i s),(6,.i i),(7,.i k)] [(2,.box 159 [.sc (.string r.name),.sc (.int .i64 r.kind),.sc (.int .i64 r.units),.sc (.int .i64 r.home)])]) (fun k=>i-k) 0 ⟨Nat.zero_le _,hc⟩ (by exact ao (qf [])) ?_
        rintro k ⟨hk,hc⟩
        by_cases hki:k<i
        · rw [List.drop_eq_getElem_cons (by omega),zz,List.getElem_take] at hc
          repeat' (first
            | refine ah ?_ ?_
            | (refine aa 9 rfl ?_;first
              | (refine cB [] (fg l[i]) ?_)
              | (refine cB [] (fg l[k]) ?_)
              | (refine cB [] (Kw l[i].mode l[k].mode) ?_))
            | refine af ?_
            | exact ai|refine ae fun hb=>?_)
          all_goals first
            | (obtain rfl:true=c:=by rw [←hc];simp [*]
               obtain rfl:false=v:=hs
               refine aE (qf []) ?_;exact ab)
            | (refine ⟨k+1,⟨by omega,by rw [←hc];simp [*]⟩,by omega,?_⟩
               exact ao (qf []))
        · rw [List.drop_eq_nil_of_le (by omega)] at hc
          obtain rfl:false=c:=hc
          repeat' (first
            | refine ah ?_ ?_
            | refine af ?_
            | exact ai|refine ae fun hb=>?_)
          refine ⟨(i+1,s),⟨by dsimp only;omega,by dsimp only;omega,by dsimp only;omega,hs⟩,by dsimp only;omega,?_⟩
          exact ao (qf [])
instance:ST prog Ge 317 29 16:=⟨ElTB.mk' underlying317 (.agg #[.int .i64 0,.int .i64 0]) 2 16 (by kernel_rfl) rfl rfl⟩
theorem ij (p q:Pr):FSpec prog 115 [p.a,q.a] [] [] (.i (cU p q)) [] :=
 aS (fun b W=>by kernel_rfl) rfl fun w S ρ vs _ h=>by
  match vs,h with
  | [_,_],⟨h1,h2,_⟩=>rw [Pr.open h1,Pr.open h2];exact (y4 p q w).mono fun _ _=>lM
theorem d7 (p:Pr):FSpec prog 29 [p.a] [] [] (.b (fI p)) [] :=
 aS (fun b W=>by kernel_rfl) rfl fun w S ρ vs _ h=>by
  match vs,h with
  | [_],⟨h1,_⟩=>rw [Pr.open h1];exact (mD p w).mono fun _ _=>lM
theorem Ea (l:List Ho) (hl:l.length≤100000):FSpec prog 250 [.one (.sl oS l)] [] [] (.c (.sl Ge (no l))) []:=by
 refine aX func250 ?_
 repeat' (first
  | refine ah ?_ ?_
  | refine af ?_
  | exact ai|refine ae fun hb=>?_)
 refine cc 3 1000 29 Ge rfl rfl rfl ?_
 refine ak (fun i=>i≤l.length) (fun i=>bH [1000] [(0,.c (.sl oS l)),(3,.c (.own 1000)),(4,.i i)] [(1000,.arr 29 Ge (no (l.take i)))]) (fun i=>l.length-i) 0 (Nat.zero_le _) (by exact ao (qf [])) ?_
 intro i hi
 have hlen:(no (l.take i)).length=i:=by simp [no];omega
 by_cases hlt:i<l.length
 ·have e:no (l.take (i+1))=no (l.take i)++[l[i].am]:=by unfold no;rw [List.take_succ_eq_append_getElem hlt,List.map_append];rfl
  repeat' (first
   | refine ah ?_ ?_
   | (refine aa 8 rfl ?_;refine aM (aj rfl rfl (ax rfl rfl) (aB [l[i].am] rfl rfl rfl rfl) rfl aC aC) rfl rfl rfl ?_)
   | refine af ?_
   | exact ai|refine ae fun hb=>?_)
  refine ⟨i+1,by omega,by omega,?_⟩
  rw [e]
  exact ao (qf [(1000,18)])
 ·obtain rfl:i=l.length:=by omega
  rw [List.take_length]
  repeat' (first
   | refine ah ?_ ?_
   | refine af ?_
   | exact ai|refine ae fun hb=>?_
   | (refine aE (qf []) ?_;exact ab))
theorem lS (r:Rs) (l:List Ho):FSpec prog 239 [r.a,.one (.sl oS l)] [] [] (.b (tT r l)) []:=by
  obtain ⟨v,hv⟩:∃v,tT r l=v:=⟨_,rfl⟩
  rw [hv]
  unfold tT at hv
  refine aX func239 ?_
  refine aR (fun c ρ a w hr=>cu (t:=1) hr rfl) (fun hl1=>?_)
  cases hs:bb r && decide (l.length≤8) with
  | false =>
    rw [hs] at hv
    obtain rfl:false=v:=hv
    repeat' (first
      | refine ah ?_ ?_
      | refine aa 9 rfl (cB [] (lR r) ?_)
      | refine af ?_
      | exact ai|refine ae fun hb=>?_
      | (refine aE (qf []) ?_;exact ab))
    exfalso;revert hs;simp [*];omega
  | true =>
    rw [hs,Bool.true_and] at hv
    obtain ⟨hs,h8⟩:bb r=true∧l.length≤8:=by simpa using hs
    repeat' (first
      | refine ah ?_ ?_
      | refine aa 9 rfl (cB [] (lR r) ?_)
      | refine af ?_
      | exact ai|(refine ae fun hb=>?_;first|(simp [hs] at hb;done)|skip))
    refine ak (fun i=>i≤l.length∧(tu r (tU l i) (l.drop i) && np r (no l))=v) (fun i=>bH [2] [(1,.c (.sl oS l)),(2,.c (.ptr 2 0)),(5,.i i)] [(2,.box 159 [.sc (.string r.name),.sc (.int .i64 r.kind),.sc (.int .i64 r.units),.sc (.int .i64 r.home)])]) (fun i=>l.length-i) 0 ⟨Nat.zero_le _,hv⟩ (by exact ao (qf [])) ?_
    rintro i ⟨hi,hs⟩
    by_cases hlt:i<l.length
    · rw [List.drop_eq_getElem_cons hlt,BF] at hs
      rcases Nat.eq_zero_or_pos i with h0|h0
      · subst h0
        rw [yZ] at hs
        repeat' (first
          | refine ah ?_ ?_
          | (refine aa 9 rfl ?_;first
            | (refine cB [] (d7 l[0].proc) ?_)
            | (refine cB [] (ii r l[0].am) ?_))
          | refine af ?_
          | exact ai|(refine ae fun hb=>?_;first|(simp at hb;done)|skip))
        all_goals first
          | (obtain rfl:false=v:=by rw [←hs];simp [*]
             refine aE (qf []) ?_;exact ab)
          | (refine ⟨1,⟨by omega,by rw [←hs,rd hlt rfl];simp [*]⟩,by omega,?_⟩
             exact ao (qf []))
      · obtain ⟨m,hm⟩:∃m,l[i-1]=m:=⟨_,rfl⟩
        have hgm:l[((i:Int)-1).toNat]? = some m:=by rw [show ((i:Int)-1).toNat=i-1 by omega,List.getElem?_eq_getElem (by omega),hm]
        rw [BG h0 (by omega) hm] at hs
        dsimp only at hs
        repeat' (first
          | refine ah ?_ ?_
          | (refine aa 9 rfl ?_;first
            | (refine cB [] (d7 l[i].proc) ?_)
            | (refine cB [] (ii r l[i].am) ?_)
            | (refine cB [] (ij m.proc l[i].proc) ?_))
          | refine af ?_
          | exact ai|refine ae fun hb=>?_)
        all_goals first
          | (obtain rfl:false=v:=by rw [←hs];first|(simp [*];done)|(rw [decide_eq_false (p:=cU m.proc l[i].proc<0) (by omega)];simp)
             refine aE (qf []) ?_;exact ab)
          | (refine ⟨i+1,⟨by omega,by rw [←hs,rd hlt rfl,decide_eq_true (p:=cU m.proc l[i].proc<0) (by omega)];simp [*]⟩,by omega,?_⟩
             exact ao (qf []))
    · rw [List.drop_eq_nil_of_le (by omega)] at hs
      obtain rfl:np r (no l)=v:=hs
      repeat' (first
        | refine ah ?_ ?_
        | (refine aa 9 rfl ?_;first
          | (refine cC [] (Ea l (by omega)) ?_)
          | (refine cB [] (G0 r (no l)) ?_))
        | refine af ?_
        | exact ai|refine ae fun hb=>?_
        | (refine aE (qf []) ?_;exact ab))
theorem Jl (l:List Ho) (p:Pr):FSpec prog 219 [.one (.sl oS l),p.a] [] [] (.v (aq l p).a) []:=by
 obtain ⟨v,hv⟩:∃v,aq l p=v:=⟨_,rfl⟩
 rw [hv]
 refine aX func219 ?_
 refine aR (fun c ρ a w hr=>cu (t:=0) hr rfl) (fun hl0=>?_)
 repeat' (first
  | refine ah ?_ ?_
  | refine af ?_
  | exact ai|refine ae fun hb=>?_)
 refine ak (fun i=>i≤l.length∧aq (l.drop i) p=v) (fun i=>bH [3,4] [(0,.c (.sl oS l)),(3,.c (.ptr 3 0)),(4,.c (.ptr 4 0)),(5,.i i)] [(3,.box 23 [.sc (.int .i64 p.site),.sc (.int .i64 p.inc),.sc (.int .i64 p.num)]),(4,.box 29 [.sc (.int .i64 0),.sc (.int .i64 0)])]) (fun i=>l.length-i) 0 ⟨Nat.zero_le _,hv⟩ (by exact ao (qf [])) ?_
 rintro i ⟨hi,hs⟩
 by_cases hlt:i<l.length
 ·rw [List.drop_eq_getElem_cons hlt,aq] at hs
  repeat' (first
   | refine ah ?_ ?_
   | refine af ?_
   | exact ai|refine ae fun hb=>?_)
  ·obtain rfl:l[i].am=v:=by rw [←hs];simp [*]
   refine aE (qf []) ?_;exact ab
  ·refine ⟨i+1,⟨by omega,by rw [←hs];simp [*]⟩,by omega,?_⟩
   exact ao (qf [])
 ·rw [List.drop_eq_nil_of_le (by omega)] at hs
  obtain rfl:=hs
  repeat' (first
   | refine ah ?_ ?_
   | refine af ?_
   | exact ai|refine ae fun hb=>?_
   | (refine aE (qf []) ?_;exact ab))
theorem Eb (l:List Ho) (p:Pr) (x:Am) (hl:l.length≤1000000):FSpec prog 165 [.one (.sl oS l),p.a,x.a] [] [] (.c (.sl oS (cV l p x))) []:=by
 obtain ⟨R,hR⟩:∃R,cV l p x=R:=⟨_,rfl⟩
 rw [hR]
 unfold cV at hR
 refine aX func165 ?_
 repeat' (first
  | refine ah ?_ ?_
  | refine aa 9 rfl (cB [] (fg x) ?_)
  | refine af ?_
  | exact ai|refine ae fun hb=>?_)
 refine cc 7 1000 287 oS rfl rfl rfl ?_
 refine ak (fun y:Nat×Bool×List Ho=>y.1≤l.length∧y.2.2.length≤y.1+(bif y.2.1 then 1 else 0)∧y.2.2++(bif y.2.1 then eT (l.drop y.1) p else nq ⟨p,x⟩ (eT (l.drop y.1) p))=R) (fun y=>bH [4,5,1000] [(0,.c (.sl oS l)),(4,.c (.ptr 4 0)),(5,.c (.ptr 5 0)),(7,.c (.own 1000)),(8,.b y.2.1),(9,.i y.1)] [(4,.box 23 [.sc (.int .i64 p.site),.sc (.int .i64 p.inc),.sc (.int .i64 p.num)]),(5,.box 29 [.sc (.int .i64 x.mode),.sc (.int .i64 x.units)]),(1000,.arr 287 oS y.2.2)]) (fun y=>l.length-y.1) (0,aO x,[]) ⟨Nat.zero_le _,Nat.zero_le _,hR⟩ (by exact ao (qf [])) ?_
 rintro ⟨i,dn,out⟩ ⟨hi,hol,hs⟩
 dsimp only at *
 by_cases hlt:i<l.length
 ·rw [List.drop_eq_getElem_cons hlt,oZ] at hs
  by_cases hp:l[i].proc=p
  ·rw [decide_eq_true hp,cond_true] at hs
   repeat' (first
    | refine ah ?_ ?_
    | refine af ?_
    | exact ai|refine ae fun hb=>?_)
   refine ⟨(i+1,dn,out),⟨by dsimp only;omega,by dsimp only;omega,hs⟩,by dsimp only;omega,?_⟩
   exact ao (qf [])
  ·rw [decide_eq_false hp,cond_false,iU] at hs
   cases dn with
   | true =>
    simp only [cond_true] at hol
    repeat' (first
     | refine ah ?_ ?_
     | (refine aa 8 rfl ?_;refine aM (aj rfl rfl (ax rfl rfl) (aB [l[i]] rfl rfl rfl rfl) rfl aC aC) rfl rfl rfl ?_)
     | refine af ?_
     | exact ai|refine ae fun hb=>?_)
    refine ⟨(i+1,true,out++[l[i]]),⟨by dsimp only;omega,by simp;omega,by rw [←hs];simp⟩,by dsimp only;omega,?_⟩
    exact ao (qf [(1000,49)])
   | false =>
    simp only [cond_false] at hol
    repeat' (first
     | refine ah ?_ ?_
     | (refine aa 8 rfl ?_;first
      | (refine aM (aj rfl rfl (ax rfl rfl) (aB [⟨p,x⟩] rfl rfl rfl rfl) rfl aC aC) rfl rfl rfl ?_)
      | (refine aM (aj rfl rfl (ax rfl rfl) (aB [l[i]] rfl rfl rfl rfl) rfl aC aC) rfl rfl rfl ?_))
     | refine aa 9 rfl (cB [] (ij l[i].proc p) ?_)
     | refine af ?_
     | exact ai|refine ae fun hb=>?_)
    ·refine ⟨(i+1,true,out++[⟨p,x⟩]++[l[i]]),⟨by dsimp only;omega,by simp;omega,by rw [←hs];simp [*]⟩,by dsimp only;omega,?_⟩
     exact ao (qf [(1000,49)])
    ·refine ⟨(i+1,false,out++[l[i]]),⟨by dsimp only;omega,by simp;omega,by rw [←hs];simp [*]⟩,by dsimp only;omega,?_⟩
     exact ao (qf [(1000,49)])
 ·rw [List.drop_eq_nil_of_le (by omega)] at hs
  cases dn with
  | true =>
   simp only [cond_true] at hol
   obtain rfl:out=R:=by rw [←hs];simp [eT]
   repeat' (first
    | refine ah ?_ ?_
    | refine af ?_
    | exact ai|refine ae fun hb=>?_
    | (refine aE (qf []) ?_;exact ab))
  | false =>
   simp only [cond_false] at hol
   obtain rfl:out++[⟨p,x⟩]=R:=by rw [←hs];simp [eT,nq]
   repeat' (first
    | refine ah ?_ ?_
    | (refine aa 8 rfl ?_;refine aM (aj rfl rfl (ax rfl rfl) (aB [⟨p,x⟩] rfl rfl rfl rfl) rfl aC aC) rfl rfl rfl ?_)
    | refine af ?_
    | exact ai|refine ae fun hb=>?_
    | (refine aE (qf []) ?_;exact ab))
theorem Kx (r:Rs) (l:List Ho) (p:Pr) (x:Am):FSpec prog 242 [r.a,.one (.sl oS l),p.a,x.a] [] [] (.b (gZ r l p x)) []:=by
 obtain ⟨v,hv⟩:∃v,gZ r l p x=v:=⟨_,rfl⟩
 rw [hv]
 unfold gZ Ih at hv
 refine aX func242 ?_
 cases hh:tT r l with
 | false =>
  rw [hh] at hv
  obtain rfl:false=v:=hv
  repeat' (first
   | refine ah ?_ ?_
   | refine aa 9 rfl (cB [] (lS r l) ?_)
   | refine af ?_
   | exact ai|(refine ae fun hb=>?_;first|(simp [hh] at hb;done)|skip)
   | (refine aE (qf []) ?_;exact ab))
 | true =>
  have h8:l.length≤8:=by have:=hh;simp [tT] at this;omega
  repeat' (first
   | refine ah ?_ ?_
   | (refine aa 9 rfl ?_;first
    | (refine cB [] (lS r l) ?_)
    | (refine cB [] (d7 p) ?_)
    | (refine cB [] (ii r x) ?_)
    | (refine cC [] (Eb l p x (by omega)) ?_)
    | (refine cB [] (lS r (cV l p x)) ?_))
   | refine af ?_
   | exact ai|(refine ae fun hb=>?_;first|(simp [hh] at hb;done)|skip))
  all_goals (refine gz ?_;rw [←hv];simp [*])
def Wt.a (x:Wt):V0:=.ag [.sc (.int .i64 x.proc.site),.sc (.int .i64 x.proc.inc),.sc (.int .i64 x.proc.num),.sc (.int .i64 x.am.mode),.sc (.int .i64 x.am.units),.sc (.int .i64 x.prio),.sc (.int .i64 x.passed)]
theorem ik (x:Wt):FSpec prog 251 [x.a] [] [] (.b (tt x)) []:=by
 unfold tt
 refine aX func251 ?_
 repeat' (first
  | refine ah ?_ ?_
  | (refine aa 9 rfl ?_;first
   | (refine cB [] (d7 x.proc) ?_)
   | (refine cB [] (lQ x.am) ?_))
  | refine af ?_
  | exact ai|refine ae fun hb=>?_)
 all_goals (refine gz ?_;simp [*])
theorem mM (l:List Wt) (p:Pr):FSpec prog 218 [.one (.sl oV l),p.a] [] [] (.i (eH l p)) []:=by
 obtain ⟨v,hv⟩:∃v,eH l p=v:=⟨_,rfl⟩
 rw [hv]
 refine aX func218 ?_
 refine aR (fun c ρ a w hr=>cu (t:=0) hr rfl) (fun hl0=>?_)
 repeat' (first
  | refine ah ?_ ?_
  | refine af ?_
  | exact ai|refine ae fun hb=>?_)
 refine ak (fun i=>i≤l.length∧gW p i (l.drop i)=v) (fun i=>bH [3] [(0,.c (.sl oV l)),(3,.c (.ptr 3 0)),(5,.i i)] [(3,.box 23 [.sc (.int .i64 p.site),.sc (.int .i64 p.inc),.sc (.int .i64 p.num)])]) (fun i=>l.length-i) 0 ⟨Nat.zero_le _,hv⟩ (by exact ao (qf [])) ?_
 rintro i ⟨hi,hs⟩
 by_cases hlt:i<l.length
 ·rw [List.drop_eq_getElem_cons hlt,fc] at hs
  repeat' (first
   | refine ah ?_ ?_
   | refine af ?_
   | exact ai|refine ae fun hb=>?_)
  ·refine gz ?_
   rw [←hs];simp [*]
  ·refine ⟨i+1,⟨by omega,by rw [←hs];simp [*]⟩,by omega,?_⟩
   exact ao (qf [])
 ·rw [List.drop_eq_nil_of_le (by omega)] at hs
  repeat' (first
   | refine ah ?_ ?_
   | refine af ?_
   | exact ai|refine ae fun hb=>?_)
  refine gz ?_
  rw [←hs];rfl
theorem qn (l:List Wt):FSpec prog 240 [.one (.sl oV l)] [] [] (.b (gX l)) []:=by
  obtain ⟨v,hv⟩:∃v,gX l=v:=⟨_,rfl⟩
  rw [hv]
  unfold gX at hv
  refine aX func240 ?_
  refine aR (fun c ρ a w hr=>cu (t:=0) hr rfl) (fun hl0=>?_)
  by_cases h8:8<l.length
  · rw [decide_eq_false (by omega)] at hv
    obtain rfl:false=v:=hv
    repeat' (first
      | refine ah ?_ ?_
      | refine af ?_
      | exact ai|refine ae fun hb=>?_
      | (refine aE (qf []) ?_;exact ab))
  rw [decide_eq_true (by omega),Bool.true_and] at hv
  repeat' (first
    | refine ah ?_ ?_
    | refine af ?_
    | exact ai|refine ae fun hb=>?_)
  refine ak (fun i=>i≤l.length∧wP l i (l.drop i)=v) (fun i=>bH [] [(0,.c (.sl oV l)),(3,.i i)] []) (fun i=>l.length-i) 0 ⟨Nat.zero_le _,hv⟩ (by exact ao (qf [])) ?_
  rintro i ⟨hi,hs⟩
  by_cases hlt:i<l.length
  · rw [List.drop_eq_getElem_cons hlt,oX] at hs
    repeat' (first
      | refine ah ?_ ?_
      | (refine aa 9 rfl ?_;first
        | (refine cB [] (ik l[i]) ?_)
        | (refine cB [] (mM l l[i].proc) ?_))
      | refine af ?_
      | exact ai|refine ae fun hb=>?_)
    all_goals first
      | (obtain rfl:false=v:=by rw [←hs];simp [*]
         refine aE (qf []) ?_;exact ab)
      | (refine ⟨i+1,⟨by omega,by rw [←hs];simp [*]⟩,by omega,?_⟩
         exact ao (qf []))
  · rw [List.drop_eq_nil_of_le (by omega)] at hs
    obtain rfl:true=v:=hs
    repeat' (first
      | refine ah ?_ ?_
      | refine af ?_
      | exact ai|refine ae fun hb=>?_
      | (refine aE (qf []) ?_;exact ab))
theorem n4 (l:List Wt) (p:Pr) (hl:l.length≤100000):FSpec prog 166 [.one (.sl oV l),p.a] [] [] (.tup [.one (.sl oV (cG l p)),.one (.sc (.bool (decide ((cG l p).length<l.length))))]) []:=by
 rw [show decide ((cG l p).length<l.length)=decide (((cG l p).length:Int)<(l.length:Int)) by simp]
 obtain ⟨R,hR⟩:∃R,cG l p=R:=⟨_,rfl⟩
 rw [hR]
 refine aX func166 ?_
 repeat' (first
  | refine ah ?_ ?_
  | refine af ?_
  | exact ai|refine ae fun hb=>?_)
 refine cc 6 1000 284 oV rfl rfl rfl ?_
 refine ak (fun x:Nat×List Wt=>x.1≤l.length∧x.2.length≤x.1∧x.2++cG (l.drop x.1) p=R) (fun x=>bH [3,1000] [(0,.c (.sl oV l)),(3,.c (.ptr 3 0)),(6,.c (.own 1000)),(7,.i x.1)] [(3,.box 23 [.sc (.int .i64 p.site),.sc (.int .i64 p.inc),.sc (.int .i64 p.num)]),(1000,.arr 284 oV x.2)]) (fun x=>l.length-x.1) (0,[]) ⟨Nat.zero_le _,Nat.le_refl _,hR⟩ (by exact ao (qf [])) ?_
 rintro ⟨i,out⟩ ⟨hi,ho,hs⟩
 dsimp only at *
 by_cases hlt:i<l.length
 ·rw [List.drop_eq_getElem_cons hlt,cG,List.filter_cons] at hs
  repeat' (first
   | refine ah ?_ ?_
   | (refine aa 8 rfl ?_;refine aM (aj rfl rfl (ax rfl rfl) (aB [l[i]] rfl rfl rfl rfl) rfl aC aC) rfl rfl rfl ?_)
   | refine af ?_
   | exact ai|refine ae fun hb=>?_)
  ·refine ⟨(i+1,out++[l[i]]),⟨by dsimp only;omega,by simp;omega,by rw [←hs];simp [cG, *]⟩,by dsimp only;omega,?_⟩
   exact ao (qf [(1000,27)])
  ·refine ⟨(i+1,out),⟨by dsimp only;omega,by dsimp only;omega,by rw [←hs];simp [cG, *]⟩,by dsimp only;omega,?_⟩
   exact ao (qf [])
 ·rw [List.drop_eq_nil_of_le (by omega)] at hs
  obtain rfl:out=R:=by rw [←hs];simp [cG]
  repeat' (first
   | refine ah ?_ ?_
   | refine af ?_
   | exact ai|refine ae fun hb=>?_
   | (refine iG (qf []) ?_;exact ab))
theorem AO {all:List Wt}:∀{l:List Wt} {k:Nat},wP all k l=true→∀x∈l,tt x=true
 | [],_,_,_,hx=>absurd hx (by simp)
 | y :: l,k,h,x,hx=>by
  rw [oX] at h
  simp only [Bool.and_eq_true] at h
  rcases List.mem_cons.1 hx with rfl|hx
  ·exact h.1.1
  ·exact AO h.2 x hx
theorem Ec (l:List Wt) (x:Wt):FSpec prog 246 [.one (.sl oV l),x.a] [] [] (.tup [.one (.sl oV (mn l x).2),.one .any,.one (.sc (.int .i64 (mn l x).1))]) []:=by
 obtain ⟨⟨E,R⟩,hR⟩:∃R,mn l x=R:=⟨_,rfl⟩
 rw [hR]
 unfold mn at hR
 dsimp only
 refine aX func246 ?_
 cases h1:gX l with
 | false =>
  rw [h1] at hR
  injection hR with e1 e2;subst e1;subst e2
  repeat' (first
   | refine ah ?_ ?_
   | refine aa 9 rfl (cB [] (qn l) ?_)
   | refine af ?_
   | exact ai|(refine ae fun hb=>?_;first|(simp [h1] at hb;done)|skip)
   | (refine eR (qf []) ?_;exact ab))
 | true =>
  rw [h1] at hR
  cases h2:tt x && decide (x.passed=0) with
  | false =>
   rw [h2] at hR
   injection hR with e1 e2;subst e1;subst e2
   repeat' (first
    | refine ah ?_ ?_
    | (refine aa 9 rfl ?_;first
     | (refine cB [] (qn l) ?_)
     | (refine cB [] (ik x) ?_))
    | refine af ?_
    | exact ai|(refine ae fun hb=>?_;first|(simp [h1] at hb;done)|skip)
    | (refine eR (qf []) ?_;exact ab))
   all_goals (exfalso;revert h2;simp [*])
  | true =>
   rw [h2] at hR
   obtain ⟨h2,h3⟩:tt x=true∧x.passed=0:=by simpa using h2
   by_cases h4:0≤eH l x.proc
   ·rw [decide_eq_true h4] at hR
    injection hR with e1 e2;subst e1;subst e2
    repeat' (first
     | refine ah ?_ ?_
     | (refine aa 9 rfl ?_;first
      | (refine cB [] (qn l) ?_)
      | (refine cB [] (ik x) ?_)
      | (refine cB [] (mM l x.proc) ?_))
     | refine af ?_
     | exact ai|(refine ae fun hb=>?_;first|(simp [h1] at hb;done)|(simp [h2] at hb;done)|skip)
     | (refine eR (qf []) ?_;exact ab))
   rw [decide_eq_false h4] at hR
   have h8:l.length≤8:=by have:=h1;simp [gX] at this;exact this.1
   by_cases h5:l.length=8
   ·rw [decide_eq_true h5] at hR
    injection hR with e1 e2;subst e1;subst e2
    repeat' (first
     | refine ah ?_ ?_
     | (refine aa 9 rfl ?_;first
      | (refine cB [] (qn l) ?_)
      | (refine cB [] (ik x) ?_)
      | (refine cB [] (mM l x.proc) ?_))
     | refine af ?_
     | exact ai|(refine ae fun hb=>?_;first|(simp [h1] at hb;done)|(simp [h2] at hb;done)|skip)
     | (refine eR (qf []) ?_;exact ab))
   rw [decide_eq_false h5] at hR
   obtain ⟨rfl,hW⟩:0=E∧i6 l x=R:=by injection hR with e1 e2;exact ⟨e1,e2⟩
   clear hR
   have hpas:∀i (h:i<l.length),0≤l[i].passed∧l[i].passed≤3:=fun i h=>by
    have h6:=h1
    simp only [gX,Bool.and_eq_true] at h6
    have h7:=AO h6.2 _ (List.getElem_mem h)
    simp [tt] at h7
    omega
   obtain ⟨K,hK⟩:∃K,kq x l l.length=K:=⟨_,rfl⟩
   unfold i6 at hW
   rw [hK] at hW
   repeat' (first
    | refine ah ?_ ?_
    | (refine aa 9 rfl ?_;first
     | (refine cB [] (qn l) ?_)
     | (refine cB [] (ik x) ?_)
     | (refine cB [] (mM l x.proc) ?_))
    | refine af ?_
    | exact ai|(refine ae fun hb=>?_;first|(simp [h1] at hb;done)|(simp [h2] at hb;done)|skip))
   refine ak (fun k=>k≤l.length∧kq x l k=K) (fun k=>bH [3] [(0,.c (.sl oV l)),(3,.c (.ptr 3 0)),(7,.i k)] [(3,.box 284 [.sc (.int .i64 x.proc.site),.sc (.int .i64 x.proc.inc),.sc (.int .i64 x.proc.num),.sc (.int .i64 x.am.mode),.sc (.int .i64 x.am.units),.sc (.int .i64 x.prio),.sc (.int .i64 x.passed)])]) (fun k=>k) l.length ⟨Nat.le_refl _,hK⟩ (by exact ao (qf [])) ?_
   rintro k ⟨hk,hs⟩
   have hcase:(k=0∧k=K)∨∃m,0<k∧l[((k:Int)-1).toNat]? = some m∧(m.prio<x.prio∧m.passed<3∧kq x l (k-1)=K∨¬(m.prio<x.prio∧m.passed<3)∧k=K):=by
    cases k with
    | zero=>exact .inl ⟨rfl,hs⟩
    | succ j =>
     refine .inr ⟨l[j],by omega,by rw [show (((j+1:Nat):Int)-1).toNat=j by omega,List.getElem?_eq_getElem (by omega)],?_⟩
     rw [kq,List.getElem?_eq_getElem (by omega)] at hs
     dsimp only at hs
     by_cases h6:l[j].prio<x.prio∧l[j].passed<3
     ·rw [decide_eq_true h6.1,decide_eq_true h6.2] at hs
      exact .inl ⟨h6.1,h6.2,hs⟩
     ·rw [←Bool.decide_and,decide_eq_false h6] at hs
      exact .inr ⟨h6,hs⟩
   rcases hcase with ⟨h0,rfl⟩|⟨m,h0,hgm,⟨h6,h7,h9⟩|⟨h6,rfl⟩⟩
   case inr.inl =>
    repeat' (first
     | refine ah ?_ ?_
     | refine af ?_
     | exact ai|refine ae fun hb=>?_)
    refine ⟨k-1,⟨by omega,h9⟩,by omega,?_⟩
    exact ao (qf [])
   all_goals
    have hlk:(l.take k).length=k:=by simp;omega
    repeat' (first
     | refine ah ?_ ?_
     | (refine aa 8 rfl ?_;refine aM (aj rfl rfl (ax rfl rfl) (aB [x] rfl rfl rfl rfl) rfl aC aC) rfl rfl rfl ?_)
     | refine af ?_
     | exact ai|(refine ae fun hb=>?_;first|(simp at hb;done)|skip))
   all_goals
    refine ak (fun y:Nat×List Wt=>y.1≤l.length∧y.2.length≤y.1+1∧y.2++(l.drop y.1).map rQ=R) (fun y=>bH [1000] [(0,.c (.sl oV l)),(7,.i k),(8,.c (.own 1000)),(9,.i y.1)] [(1000,.arr 284 oV y.2)]) (fun y=>l.length-y.1) (k,l.take k++[x]) ⟨hk,by simp;omega,by rw [←hW];simp⟩ (by exact ao (qf [(1000,63)])) ?_
    rintro ⟨i,out⟩ ⟨hi,ho,hs⟩
    dsimp only at *
    by_cases hlt:i<l.length
    ·have hp:=hpas i hlt
     rw [List.drop_eq_getElem_cons hlt,List.map_cons] at hs
     repeat' (first
      | refine ah ?_ ?_
      | (refine aa 8 rfl ?_;refine aM (aj rfl rfl (ax rfl rfl) (aB [rQ l[i]] rfl rfl rfl rfl) rfl aC aC) rfl rfl rfl ?_)
      | refine af ?_
      | exact ai|refine ae fun hb=>?_)
     refine ⟨(i+1,out++[rQ l[i]]),⟨by dsimp only;omega,by simp;omega,by rw [←hs];simp⟩,by dsimp only;omega,?_⟩
     exact ao (qf [(1000,82)])
    ·rw [List.drop_eq_nil_of_le (by omega)] at hs
     obtain rfl:out=R:=by rw [←hs];simp
     repeat' (first
      | refine ah ?_ ?_
      | refine af ?_
      | exact ai|refine ae fun hb=>?_
      | (refine eR (qf []) ?_;exact ab))
end Go.Proofs.YtdaajdflefnjfaaGreat
