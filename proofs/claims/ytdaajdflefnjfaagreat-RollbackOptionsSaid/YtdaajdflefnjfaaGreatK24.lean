/- Part 24 of 25 of the proof of rollbackOptions_holds (no condition). -/
import Derived.Test.YtdaajdflefnjfaaGreatK23
import Derived.Test.YtdaajdflefnjfaaGreatChecked
import Derived.Deep.RegionWith
import Derived.Lib.SliceRun
import Derived.Laws.BytesString
set_option linter.unusedVariables false
set_option linter.unusedSimpArgs false
set_option maxRecDepth 100000
set_option maxHeartbeats 64000000
namespace Go.Proofs.YtdaajdflefnjfaaGreat
open Go.RowKit Go.Proofs.Tryz
def oI (b:UInt8):Value:=.int .u8 (b.toNat:Int)
theorem wy {P:Program} {w:World} (size:Nat) (s:ByteArray):(Builtin.firstCells size s.size (.string s)).run P w = .ok (s.data.map oI) w:=by
 have h:(s.extract 0 s.size).data=s.data:=by
  have e:s.extract 0 s.size=s:=ByteArray.extract_zero_size
  rw [e]
 simp only [Builtin.firstCells,Sem.run_pure,h]
 rfl
theorem As {P:Program} (w:World) (base:Nat) (t u ty e:TypeId) (i:TypeInfo) (z:Value) (ht:P.underlying t=some (.slice e)) (hu:P.underlying u=some .string) (hi:P.info? e=some i) (hz:i.zero=some z)
  (hsize:i.size=1) (hby:i.bytes=1) (hzs:z.cells.size=1) (v:Value) (n:Nat) (xs:List Value) (hown:w.ownsRow base e 1 v n xs) (s:ByteArray)
  (h63:n+s.size≤maxLen) (hbytes:n+s.size≤140737488355328) (hbase:base≤w.heap.size) :
  ∃v' w',(Builtin.append_ #[t,u] ty #[v,.string s]).run P w = .ok v' w'∧w'.ownsRow base e 1 v' (n+s.size) (xs++(s.data.map oI).toList)∧w.grownBy w' v.ownBlock:=by
 obtain ⟨N,hN⟩:∃N,(s.data.map oI).toList=N:=⟨_,rfl⟩
 have hNa:s.data.map oI=N.toArray:=by rw [←hN]
 have hNl:N.length=s.size:=by rw [←hN];simp
 have h1:∀u∈N,u.oneCell'=true:=by
  intro u hu
  rw [←hN] at hu
  simp only [Array.toList_map,List.mem_map] at hu
  obtain ⟨b,_,rfl⟩:=hu
  rfl
 rw [hN]
 have hxl:xs.length=n:=by have:=hown.1;omega
 have hsm:¬(9223372036854775807<((n:Int)+(s.size:Int))):=by simp only [maxLen] at h63;omega
 have hf:∀W:World,(Builtin.firstCells 1 s.size (.string s)).run P W = .ok N.toArray W:=fun W=>by rw [wy,hNa]
 have grown:∀(old:Nat),old<n+s.size→∀row:Option Nat,
   (w.drew.alloc (.cells (xs.toArray++N.toArray++Builtin.zeroCells z.cells (grownCap w (n+s.size) old e-(n+s.size))) e)).ownsRow base e 1 (.slice (some ⟨w.heap.size,0,none⟩) (n+s.size) (grownCap w (n+s.size) old e)) (n+s.size) (xs++N)∧
   w.grownBy (w.drew.alloc (.cells (xs.toArray++N.toArray++Builtin.zeroCells z.cells (grownCap w (n+s.size) old e-(n+s.size))) e)) row:=by
  intro old ho row
  have hge:=grownCap_ge w (n+s.size) old e
  have hcm:=grownCap_le_maxLen w (n+s.size) old e h63
  have hl:(xs++N).length=n+s.size:=by rw [List.length_append,hxl,hNl]
  refine ⟨⟨by rw [hl,Nat.mul_one],.inr ⟨w.heap.size,_,_,rfl,hbase,heap_alloc_new w.drew _,hge,hcm,?_,?_⟩⟩,⟨rfl,rfl,rfl,by simp,fun k hk _=>Below.heap_alloc w.drew _ k hk⟩⟩
  ·simp only [Array.size_append,List.size_toArray,size_zeroCells,hzs,hxl,hNl,Nat.mul_one]
   omega
  ·simp only [Array.toList_append,List.append_assoc,Nat.mul_one]
   rw [←List.append_assoc,←hl]
   exact List.take_left
 rcases hown.2 with ⟨rfl,rfl⟩|⟨g,cap,cur,rfl,hbg,hg,hnc,hcm,hcs,htake⟩
 ·obtain rfl:=List.eq_nil_of_length_eq_zero hxl
  by_cases hm:s.size=0
  ·have hn:N=[]:=List.eq_nil_of_length_eq_zero (by rw [hNl,hm])
   subst hn
   refine ⟨.slice none 0 0,w,?_,by rw [hm];exact World.ownsRow_nil w base e 1,⟨rfl,rfl,rfl,Nat.le_refl _,fun _ _ _=>rfl⟩⟩
   have hf0:=hf w
   rw [hm] at hf0
   simp [Builtin.append_,run_underlying ht,run_underlying hu,sizeOf,typeInfo,hi,Builtin.lenOf,hm,hsize,hf0]
  ·have h48:¬(281474976710656<Builtin.nextslicecap s.size 0*i.bytes):=by rw [nextslicecap_zero (by omega),hby];omega
   have hgr:=grown 0 (by omega) (Value.ownBlock (.slice none 0 0))
   simp only [Nat.zero_add,List.nil_append,Array.empty_append] at hgr hsm ⊢
   refine ⟨_,_,?_,hgr.1,hgr.2⟩
   have hsm':¬(9223372036854775807<(s.size:Int)):=by simp only [maxLen] at h63;omega
   simp [Builtin.append_,run_underlying ht,run_underlying hu,sizeOf,typeInfo,zeroValue,hi,hz,hsize,Builtin.lenOf,hm,hsm',h48,Question.forced,hf,run_firstCells_none,newRow,grownCap]
 ·by_cases hroom:n+s.size≤cap
  ·have hfit:n+N.length≤cur.size:=by rw [hNl,hcs,Nat.mul_one];exact hroom
   have hst:=run_storeCells_at P g n e N 0 cur w hg (by simpa using hfit) h1
   simp only [Nat.add_zero] at hst
   rw [Nat.mul_one] at htake
   refine ⟨.slice (some ⟨g,0,none⟩) (n+s.size) cap,w.setRow g (cur.toList.take n++N++cur.toList.drop (n+N.length)).toArray,?_,⟨by simp [hxl,hNl],.inr ⟨g,cap,_,rfl,hbg,setRow_heap w g cur _ e _ hg,hroom,hcm,?_,?_⟩⟩,⟨rfl,rfl,rfl,by simp,fun k _ hk=>setRow_other w g k _ (fun e=>hk (by simp [Value.ownBlock,e]))⟩⟩
   ·simp [Builtin.append_,run_underlying ht,run_underlying hu,sizeOf,typeInfo,hi,hsize,Builtin.lenOf,hroom,hf,Addr.add_lit,hst]
   ·simp only [List.size_toArray,List.length_append,List.length_take,List.length_drop,Array.length_toList]
    omega
   ·rw [htake,Nat.mul_one,←hNl,←hxl,←List.length_append]
    exact List.take_left
  ·have holds:∀j u,xs[j]? = some u→w.cell? ((⟨g,0,none⟩:Addr).add j)=some u:=hown.cells (g:=g) rfl
   have hfo:=run_firstCells_some (P:=P) w.drew 1 n ⟨g,0,none⟩ n cap xs (by rw [hxl,Nat.mul_one]) (by simpa using holds)
   have h48:¬(281474976710656<Builtin.nextslicecap (n+s.size) cap*i.bytes):=by
    have:=growslice_fits (need:=n+s.size) (old:=cap) (bytes:=1) (by omega) (by omega)
    rw [hby]
    omega
   have hgr:=grown cap (by omega) (Value.ownBlock (.slice (some ⟨g,0,none⟩) n cap))
   refine ⟨_,_,?_,hgr.1,hgr.2⟩
   simp [Builtin.append_,run_underlying ht,run_underlying hu,sizeOf,typeInfo,zeroValue,hi,hz,hsize,Builtin.lenOf,hroom,hsm,h48,Question.forced,hf,hfo,newRow,grownCap]
   try (congr 2;apply Array.ext';simp [List.append_assoc])
theorem tG {P:Program} {ops:Array Oper} {rest:List Oper} {o:Oper} {a:Act} {Q:Exit→Act→World→Prop} (w:World) (hgd:o.guard=none) (x y:Operand) (t u:TypeId)
  (ho:o.op = .call { callee:=.builtin .append,args:=#[x,y],argTypes:=#[t,u] }) (base:Nat) (e:TypeId) (i:TypeInfo) (z:Value) (ht:P.underlying t=some (.slice e)) (hu:P.underlying u=some .string) (hi:P.info? e=some i) (hz:i.zero=some z)
  (hsize:i.size=1) (hby:i.bytes=1) (hzs:z.cells.size=1) (v:Value) (n:Nat) (xs:List Value) (hv:a.eval x=v) (hown:w.ownsRow base e 1 v n xs) (s:ByteArray) (hs:a.eval y = .string s)
  (h63:n+s.size≤maxLen) (hbytes:n+s.size≤140737488355328) (hbase:base≤w.heap.size)
  (h:∀v' w',w'.ownsRow base e 1 v' (n+s.size) (xs++(s.data.map oI).toList)→w.grownBy w' v.ownBlock→wpList P ops Q rest (a.put o.dst v') w'):wpList P ops Q (o :: rest) a w:=by
 refine wpList_plain hgd fun K hK=>?_
 obtain ⟨v',w',hr,h2,h3⟩:=As (P:=P) w base t u o.type e i z ht hu hi hz hsize hby hzs v n xs hown s h63 hbytes hbase
 unfold Oper.wp execOp
 simp only [ho,resolve,invoke,builtin,Sem.run_bind,Sem.run_pure,Result.andThen_ok,List.map_toArray,List.map_cons,List.map_nil,hv,hs,hr]
 exact hK _ _ (h v' w' h2 h3)
theorem FK (s:ByteArray):(s.data.map oI).toList=(s.data.toList.map fun c=>[Value.int .u8 (c.toNat:Int)]).flatten:=by
 rw [Array.toList_map]
 induction s.data.toList with
 | nil=>rfl
 | cons c l ih=>rw [List.map_cons,List.map_cons,List.flatten_cons,ih];rfl
theorem Il {w w':World} {base:Nat} {v v':Value} {L:List UInt8} {s:ByteArray} {xs:List Value} (hx:Reps cd w (oL w v) L xs) (hb:base≤w'.heap.size) (h:w'.ownsRow base 5 1 v' (L.length+s.size) (xs++(s.data.map oI).toList)):OwnRows cd 5 w' base v' (L++s.data.toList):=by
 refine ⟨hb,xs++(s.data.map oI).toList,?_,?_⟩
 ·have e:(L++s.data.toList).length=L.length+s.size:=by simp
  rw [e]
  exact h
 ·have e1:=Reps.plain hx
  have e2:xs++(s.data.map oI).toList=((L++s.data.toList).map fun c=>[Value.int .u8 (c.toNat:Int)]).flatten:=by
   rw [List.map_append,List.flatten_append,←FK,e1]
  rw [e2]
  exact Reps.plain_mk _
theorem yM (A:Option Addr) (cap:Nat) (l:List UInt8) (s:ByteArray) (w:World) (hA:A=none→l.length=0) (hc:l.length≤cap) (hcm:cap≤maxLen) (hm:l.length≤1000000000) (hs:s.size≤1000000000) (hr:RowsAt cd w (Lo w.heap.size) A l) :
  Calls prog 47 #[.slice A l.length cap,.string s] w (fP cd 5 w (l++aX s.size++s.data.toList)):=by
 have hw:IntKind.u64.wrap (s.size:Int)=(s.size:Int):=IntWalk.u64_in _ (by omega)
 have HP:=Lib.hid (lG A cap l s.size w (by omega) hA hc hcm (by omega) hr)
 have hlen:(aX s.size).length≤10:=i5 9 s.size (by
  have e70:(2:Nat) ^ (7*(9+1))=1180591620717411303424:=by decide
  omega)
 have HL:=Lib.hid hlen
 have HM:=Lib.hid hm
 have HS:=Lib.hid hs
 clear hA hc hcm hr hlen hm hs
 go_enter func47,ntmps47
 go_wp2_with fail
 refine HP.out.mono ?_
 rintro e w1 ⟨v1,rfl,hown,hb⟩
 obtain ⟨hb0,xs,ho,hx⟩:=hown
 have HO:=Lib.hid ho
 have HX:=Lib.hid hx
 have HB:=Lib.hid hb
 have HB0:=Lib.hid hb0
 clear ho hx hb hb0
 obtain ⟨i0,z,hi,hz0,hz1,hz2,hz3⟩:=iS.info
 have HI:=Lib.hid hi
 clear hi
 go_wp2_with (at_builtin;refine tG w1 rfl (.tmp 9) (.tmp 10) _ _ rfl w.heap.size 5 i0 z iS.under underlying9 HI.out hz0 hz1 hz3 hz2 v1 _ xs rfl HO.out s rfl (by have:=HL.out;have:=HM.out;have:=HS.out;simp [maxLen];omega) (by have:=HL.out;have:=HM.out;have:=HS.out;simp;omega) HB0.out ?_;intro v2 w2 hown2 hg2;have HO2:=Lib.hid hown2;have HG2:=Lib.hid hg2;clear hown2 hg2)
 go_ret
 have hB2:Below w.heap.size w w2:=HB.out.grown HG2.out HB0.out fun k hk=>(HO.out.lt k hk).1
 exact ⟨_,rfl,(Il (L:=l++aX s.size) HX.out hB2.size (by simpa using HO2.out)),hB2⟩
theorem cg {fn:Func} {p u u2:Tmp} {ty:TypeId} (h:fn.results = #[.cell p ty,.tmp u,.tmp u2]) (tmps:Array Value) (P:Program) (w:World) :
  (results fn tmps).run P w =
   ((asAddr (tmps.getD p undef)).run P w).andThen fun a w₁=>((loadVar ty a).run P w₁).andThen fun v w₂=>.ok (.tuple #[v,tmps.getD u undef,tmps.getD u2 undef]) w₂:=by
 simp only [results,h]
 simp [Sem.run_bind,Result.andThen]
def qM (x:Pr×Nat×Int):Value:=.tuple #[x.1.val,.int .i64 (x.2.1:Int),.int .i64 x.2.2]
theorem yN {l:List UInt8} {v n:Nat} {e:Int} (h:aK l=(v,n,e)) (he:e≠0):dD l=(jV,0,e):=by
 unfold dD
 simp [h,he]
theorem yO {l:List UInt8} {v n v' n':Nat} {e':Int} (h:aK l=(v,n,0)) (h':aK (l.drop n)=(v',n',e')) (he:e'≠0):dD l=(jV,0,e'):=by
 unfold dD
 simp [h,h',he]
theorem yP {l:List UInt8} {v n v' n' v'' n'':Nat} {e'':Int} (h:aK l=(v,n,0)) (h':aK (l.drop n)=(v',n',0)) (h'':aK (l.drop (n+n'))=(v'',n'',e'')) (he:e''≠0):dD l=(jV,0,e''):=by
 unfold dD
 simp [h,h',h'',he]
theorem yQ {l:List UInt8} {v n v' n' v'' n'':Nat} (h:aK l=(v,n,0)) (h':aK (l.drop n)=(v',n',0)) (h'':aK (l.drop (n+n'))=(v'',n'',0)):dD l=y8 v v' v'' (n+n'+n''):=by
 unfold dD
 simp [h,h',h'']
def jS (v:Nat):Nat:=min v 1073741824
theorem BC (a b c:Nat):fo ⟨(jS a:Int),(jS b:Int),(jS c:Int)⟩=fo ⟨(a:Int),(b:Int),(c:Int)⟩:=by
 rw [Bool.eq_iff_iff,lJ,lJ]
 simp only [jS]
 omega
theorem At {a b c:Nat} (h:fo ⟨(a:Int),(b:Int),(c:Int)⟩=true):jS a=a∧jS b=b∧jS c=c:=by
 have:=lJ.1 h
 simp only [jS] at *
 omega
theorem wz (v:Nat):(if (1073741824:Int)<(v:Int) then 1073741824 else (v:Int))=(jS v:Int)∧min (v:Int) 1073741824=(jS v:Int):=by unfold jS;exact ⟨by split <;> omega,by omega⟩
theorem s9 (v:Nat):IntKind.i64.wrap (jS v:Int)=(jS v:Int):=IntWalk.i64_in _ (by unfold jS;omega)
theorem yR (A:Option Addr) (B cap k:Nat) (l:List UInt8) (w:World) (hk:k≤l.length) (hc:l.length≤cap) (hm:l.length≤281474976710656) (hr:RowsAt cd w (Lo B) A l) :
  Calls prog 91 #[.slice (uR A cap k 1) (l.length-k) (cap-k)] w (mq w (uH (l.drop k))):=by
 have:=s8 (uR A cap k 1) B (cap-k) (l.drop k) w (by rw [List.length_drop];omega) (hr.cut hk hc)
 rwa [List.length_drop] at this
theorem FL (A:Option Addr) (cap:Nat) (l:List UInt8) (w:World) (hc:l.length≤cap) (hcm:cap≤maxLen) (hm:l.length≤281474976710656) (hr:RowsAt cd w (Lo w.heap.size) A l) :
  Calls prog 90 #[.slice A l.length cap] w (gV w (qM (dD l))):=by
 have HR:=Lib.hid hr
 have HC:=Lib.hid hc
 have HM:=Lib.hid hm
 obtain ⟨u0,n0,e0,hu0⟩:∃a b c,aK l=(a,b,c):=⟨_,_,_,rfl⟩
 have b0:=ct l
 rw [hu0] at b0
 dsimp only at b0
 have HU0:=Lib.hid hu0
 have HB0:=Lib.hid b0
 have HE0:=Lib.hid (fun he=>yN hu0 he)
 have HX0:Hid (∀W,Below w.heap.size w W→Calls prog 91 #[.slice A l.length cap] W (mq W (.tuple #[.int .u64 (u0:Int),.int .i64 (n0:Int),.int .i64 e0]))):=Lib.hid (fun W hb=>by
  have:=s8 A w.heap.size cap l W hm (hr.below hb (Nat.le_refl _) (Nat.le_refl _))
  rw [oH hu0] at this
  exact this)
 obtain ⟨res,hres⟩:∃res,qM (dD l)=res:=⟨_,rfl⟩
 rw [hres]
 have HRES:=Lib.hid hres
 clear hr hc hm hu0 b0 hres
 unfold maxLen at hcm
 go_enter func90,ntmps90
 go_wp2_with fail
 refine wp_loop_rounds 4 ?_
 rw [rounds_succ]
 go_wp2_with fail
 refine (HX0.out _ (by (exact iJ))).mono ?_
 rintro e w1 ⟨rfl,hw⟩
 rw [hw]
 clear hw
 have hE0:=HB0.out.2.2
 by_cases he0:e0=0
 ·obtain rfl:=he0.symm
  obtain ⟨hp0,hl0,ht0⟩:=HB0.out.2.1 rfl
  have c0:=wz u0
  have d0:=s9 u0
  obtain ⟨m0,hm0⟩:∃m,jS u0=m:=⟨_,rfl⟩
  rw [hm0] at c0 d0
  obtain ⟨u1,n1,e1,hu1⟩:∃a b c,aK (l.drop n0)=(a,b,c):=⟨_,_,_,rfl⟩
  have b1:=ct (l.drop n0)
  rw [hu1,List.length_drop] at b1
  dsimp only at b1
  have HU1:=Lib.hid hu1
  have HB1:=Lib.hid b1
  have HE1:=Lib.hid (fun he=>yO HU0.out hu1 he)
  have HM0:=Lib.hid hm0
  have HX1:Hid (∀W,Below w.heap.size w W→Calls prog 91 #[.slice (uR A cap n0 1) (l.length-n0) (cap-n0)] W (mq W (.tuple #[.int .u64 (u1:Int),.int .i64 (n1:Int),.int .i64 e1]))):=Lib.hid (fun W hb=>by
   have:=yR A w.heap.size cap n0 l W hl0 HC.out HM.out (HR.out.below hb (Nat.le_refl _) (Nat.le_refl _))
   rw [oH hu1] at this
   exact this)
  have hcut1:=(Jb underlying56 (z:=.int .u8 0) (sz:=1) (by_:=1) (by kernel_rfl) A l.length cap n0 hl0 HC.out).2
  clear hu1 b1 hm0 hE0 HX0
  go_wp2_with fail
  rw [rounds_succ]
  go_wp2_with fail
  refine (HX1.out _ (by (exact iJ))).mono ?_
  rintro e w1 ⟨rfl,hw⟩
  rw [hw]
  clear hw hcut1 c0 d0
  have hE1:=HB1.out.2.2
  by_cases he1:e1=0
  ·obtain rfl:=he1.symm
   obtain ⟨hp1,hl1,ht1⟩:=HB1.out.2.1 rfl
   have c1:=wz u1
   have d1:=s9 u1
   obtain ⟨m1,hm1⟩:∃m,jS u1=m:=⟨_,rfl⟩
   rw [hm1] at c1 d1
   have hl01:n0+n1≤l.length:=by omega
   obtain ⟨u2,n2,e2,hu2⟩:∃a b c,aK (l.drop (n0+n1))=(a,b,c):=⟨_,_,_,rfl⟩
   have b2:=ct (l.drop (n0+n1))
   rw [hu2,List.length_drop] at b2
   dsimp only at b2
   have HU2:=Lib.hid hu2
   have HB2:=Lib.hid b2
   have HE2:=Lib.hid (fun he=>yP HU0.out HU1.out hu2 he)
   have HM1:=Lib.hid hm1
   have HX2:Hid (∀W,Below w.heap.size w W→Calls prog 91 #[.slice (uR A cap (n0+n1) 1) (l.length-(n0+n1)) (cap-(n0+n1))] W (mq W (.tuple #[.int .u64 (u2:Int),.int .i64 (n2:Int),.int .i64 e2]))):=Lib.hid (fun W hb=>by
    have:=yR A w.heap.size cap (n0+n1) l W hl01 HC.out HM.out (HR.out.below hb (Nat.le_refl _) (Nat.le_refl _))
    rw [oH hu2] at this
    exact this)
   have hcut2:=(Jb underlying56 (z:=.int .u8 0) (sz:=1) (by_:=1) (by kernel_rfl) A l.length cap (n0+n1) hl01 HC.out).2
   rw [Int.natCast_add] at hcut2
   clear hu2 b2 hm1 hE1 HX1
   go_wp2_with fail
   rw [rounds_succ]
   go_wp2_with fail
   refine (HX2.out _ (by (exact iJ))).mono ?_
   rintro e w1 ⟨rfl,hw⟩
   rw [hw]
   clear hw hcut2 c1 d1
   have hE2:=HB2.out.2.2
   by_cases he2:e2=0
   ·obtain rfl:=he2.symm
    obtain ⟨hp2,hl2,ht2⟩:=HB2.out.2.1 rfl
    have c2:=wz u2
    have d2:=s9 u2
    obtain ⟨m2,hm2⟩:∃m,jS u2=m:=⟨_,rfl⟩
    rw [hm2] at c2 d2
    have HM2:=Lib.hid hm2
    clear hm2 hE2 HX2
    go_wp2_with fail
    rw [rounds_succ]
    go_wp2_with fail
    refine (oS ⟨m0,m1,m2⟩ _).mono ?_
    rintro e w4 ⟨rfl,hb4⟩
    obtain ⟨hc_w4,hf_w4⟩:=bh hb4
    have hs_w4:=hb4.size
    (try simp at hs_w4)
    have hz_w4_0:w.heap.size<w4.heap.size:=(by omega)
    have hz_w4_1:w.heap.size+1<w4.heap.size:=(by omega)
    have hz_w4_2:w.heap.size+1+1<w4.heap.size:=(by omega)
    clear hs_w4
    have hr0:=yQ HU0.out HU1.out HU2.out
    unfold y8 at hr0
    rw [←BC,HM0.out,HM1.out,HM2.out] at hr0
    have HB4:Hid (Below w.heap.size w w4):=Lib.hid (Below.tr (Below.al (Below.al (Below.al (Below.refl _ _) _) _) _) hb4)
    have PB0:Blk w4 w.heap.size 23 #[.int .i64 0,.int .i64 0,.int .i64 0]:=(((Blk.new w 23 _).alloc _).alloc _).below hb4 (by simp;omega)
    have z0:=PB0.cellx 0 (v:=.int .i64 0) rfl
    have z1:=PB0.cellx 1 (v:=.int .i64 0) rfl
    have z2:=PB0.cellx 2 (v:=.int .i64 0) rfl
    have fz0:=PB0.frozen 0
    have fz1:=PB0.frozen 1
    have fz2:=PB0.frozen 2
    clear hb4 PB0
    cases hvp:fo ⟨(m0:Int),(m1:Int),(m2:Int)⟩ with
    | false =>
     rw [hvp,if_neg (by simp)] at hr0
     rw [hr0] at HRES
     clear hvp hr0
     go_wp2_with fail
     (try simp only [Exit.inBlock,Exit.then])
     have hv:=HRES.out
     have HB:=HB4.out
     refine bodyPost_ret_by (v:=res) ?_ rfl ⟨rfl,by (exact iJ)⟩
     rw [cg rfl,←hv]
     unfold qM jV Pr.val
     go_simp
    | true =>
     rw [hvp,if_pos rfl] at hr0
     have hid:jS u0=u0∧jS u1=u1∧jS u2=u2:=At (by rw [←BC,HM0.out,HM1.out,HM2.out];exact hvp)
     rw [HM0.out,HM1.out,HM2.out] at hid
     rw [←hid.1,←hid.2.1,←hid.2.2] at hr0
     rw [hr0] at HRES
     have HN:Hid (((n0+n1+n2:Nat):Int)=(n0:Int)+(n1:Int)+(n2:Int)):=Lib.hid (by omega)
     clear hvp hr0 hid
     go_wp2_with fail
     (try simp only [Exit.inBlock,Exit.then])
     have hv:=HRES.out
     have HB:=HB4.out
     refine bodyPost_ret_by (v:=res) ?_ rfl ⟨rfl,by (exact iJ)⟩
     rw [cg rfl,←hv]
     unfold qM Pr.val
     rw [HN.out]
     go_simp
   ·have hb2:((e2:Int) == 0)=false:=beq_eq_false_iff_ne.2 he2
    clear hE2
    have hr0:=HE2.out he2
    rw [hr0] at HRES
    go_wp2_with fail
    (try simp only [Exit.inBlock,Exit.then])
    have hv:=HRES.out
    refine bodyPost_ret_by (v:=res) ?_ rfl ⟨rfl,by (exact iJ)⟩
    rw [cg rfl,←hv]
    unfold qM jV Pr.val
    go_simp
  ·have hb1:((e1:Int) == 0)=false:=beq_eq_false_iff_ne.2 he1
   clear hE1
   have hr0:=HE1.out he1
   rw [hr0] at HRES
   go_wp2_with fail
   (try simp only [Exit.inBlock,Exit.then])
   have hv:=HRES.out
   refine bodyPost_ret_by (v:=res) ?_ rfl ⟨rfl,by (exact iJ)⟩
   rw [cg rfl,←hv]
   unfold qM jV Pr.val
   go_simp
 ·have hb0:((e0:Int) == 0)=false:=beq_eq_false_iff_ne.2 he0
  clear hE0
  have hr0:=HE0.out he0
  rw [hr0] at HRES
  go_wp2_with fail
  (try simp only [Exit.inBlock,Exit.then])
  have hv:=HRES.out
  refine bodyPost_ret_by (v:=res) ?_ rfl ⟨rfl,by (exact iJ)⟩
  rw [cg rfl,←hv]
  unfold qM jV Pr.val
  go_simp
theorem pR {α:Type} {E:El α} {w:World} {S:Nat→Prop} {A:Option Addr} {l:List α} (h:RowsAt E w S A l):A=none→l.length=0:=fun e=>by
 obtain ⟨xs,_,h2⟩:=h
 rcases Nat.eq_zero_or_pos l.length with h0|h0
 ·exact h0
 ·obtain ⟨b,off,h3,_⟩:=h2 h0
  rw [e] at h3
  cases h3
abbrev Im (l:List UInt8):V0:=.one (.sl cd l)
abbrev uV (n:Nat):V0:=.one (.sc (.int .u64 (n:Int)))
theorem lI (l:List UInt8) (v:Nat) (hv:v<18446744073709551616) (hl:l.length≤1000000000) {R:List UInt8} (hR:l++aX v=R):FSpec prog 46 [Im l,uV v] [] [] (.c (.sl cd R)) []:=by
 subst hR
 exact aA (fun b W=>by kernel_rfl) rfl fun w S ρ vs hS h=>by
  match vs,h with
  | [_,_],⟨⟨A,c,rfl,hc,hr⟩,rfl,_⟩=>exact (lG A c l v w hv (pR hr) hc.1 hc.2 (by omega) (hr.lo hS)).mono fun _ _=>jh
theorem FM (l:List UInt8) (p:Pr) (hl:l.length≤1000000000) {R:List UInt8} (hR:l++tj p=R):FSpec prog 45 [Im l,p.a] [] [] (.c (.sl cd R)) []:=by
 subst hR
 exact aA (fun b W=>by kernel_rfl) rfl fun w S ρ vs hS h=>by
  match vs,h with
  | [_,_],⟨⟨A,c,rfl,hc,hr⟩,h1,_⟩=>rw [Pr.open h1];exact (yL A c l p w (by omega) (hr.lo hS)).mono fun _ _=>jh
theorem FN (l:List UInt8) (s:ByteArray) (hl:l.length≤1000000000) (hs:s.size≤1000000000) {R:List UInt8} (hR:l++aX s.size++s.data.toList=R):FSpec prog 47 [Im l,.one (.sc (.string s))] [] [] (.c (.sl cd R)) []:=by
 subst hR
 exact aA (fun b W=>by kernel_rfl) rfl fun w S ρ vs hS h=>by
  match vs,h with
  | [_,_],⟨⟨A,c,rfl,hc,hr⟩,rfl,_⟩=>exact (yM A c l s w (pR hr) hc.1 hc.2 hl hs (hr.lo hS)).mono fun _ _=>jh
def I1 (n k:Nat) (e:Int):TV:=.tup [.one (.sc (.int .u64 (n:Int))),.one (.sc (.int .i64 (k:Int))),.one (.sc (.int .i64 e))]
theorem C7 {w w':World} {S:Nat→Prop} {ρ:Nat→Value} {l:List UInt8} {e:Ending} (h:e = .returned (uH l)∧w'=w):∃v,e = .returned v∧Below w.heap.size w w'∧(I1 (aK l).1 (aK l).2.1 (aK l).2.2).rep w' (Gr S w.heap.size w') ρ v :=
 ⟨_,h.1,by rw [h.2];exact Below.refl _ _,_,rfl,rfl,rfl,rfl,trivial⟩
theorem I2 (l:List UInt8) (hl:l.length≤1000000000) {n k:Nat} {x:Int} (hx:aK l=(n,k,x)):FSpec prog 91 [Im l] [] [] (I1 n k x) []:=by
 obtain ⟨rfl,rfl,rfl⟩:(aK l).1=n∧(aK l).2.1=k∧(aK l).2.2=x:=by rw [hx];exact ⟨rfl,rfl,rfl⟩
 exact aA (fun b W=>by kernel_rfl) rfl fun w S ρ vs hS h=>by
  match vs,h with
  | [_],⟨⟨A,c,rfl,hc,hr⟩,_⟩=>exact (s8 A _ c l w (by omega) (hr.lo hS)).mono fun _ _=>C7
def I3 (p:Pr) (k:Nat) (e:Int):TV:=.tup [p.a,.one (.sc (.int .i64 (k:Int))),.one (.sc (.int .i64 e))]
theorem C8 {w w':World} {S:Nat→Prop} {ρ:Nat→Value} {x:Pr×Nat×Int} {e:Ending} (h:gV w (qM x) e w'):∃v,e = .returned v∧Below w.heap.size w w'∧(I3 x.1 x.2.1 x.2.2).rep w' (Gr S w.heap.size w') ρ v :=
 ⟨_,h.1,h.2,_,rfl,⟨_,rfl,rfl,rfl,rfl,trivial⟩,rfl,rfl,trivial⟩
theorem LS (l:List UInt8) (hl:l.length≤1000000000) {p:Pr} {k:Nat} {x:Int} (hx:dD l=(p,k,x)):FSpec prog 90 [Im l] [] [] (I3 p k x) []:=by
 obtain ⟨rfl,rfl,rfl⟩:(dD l).1=p∧(dD l).2.1=k∧(dD l).2.2=x:=by rw [hx];exact ⟨rfl,rfl,rfl⟩
 exact aA (fun b W=>by kernel_rfl) rfl fun w S ρ vs hS h=>by
  match vs,h with
  | [_],⟨⟨A,c,rfl,hc,hr⟩,_⟩=>exact (FL A c l w hc.1 hc.2 (by omega) (hr.lo hS)).mono fun _ _=>C8
theorem Au (A:Option Addr) (cap:Nat) (l:List UInt8) (w:World) (hm:l.length≤1000000000) (hr:RowsAt cd w (Lo w.heap.size) A l) :
  Calls prog 44 #[.slice A l.length cap] w (fP cd 5 w l):=by
 have hA:=pR hr
 have q:∀(w:World) (a:Option Addr) (n c n' c':Nat),(binOp .eql 56 (.slice a n c) (.slice none n' c')).run prog w = .ok (.bool a.isNone) w:=fun w a n c n' c'=>Lib.run_eql_slice_nil w _ _ a n c n' c' iS.under
 cases A with
 | none =>
  obtain rfl:=List.eq_nil_of_length_eq_zero (hA rfl)
  clear hA hr hm
  go_enter func44,ntmps44
  go_wp2
  go_ret
  exact ⟨_,rfl,OwnRows.nil _ _ _ _ (Nat.le_refl _),Below.refl _ _⟩
 | some a =>
  clear hA
  have hown:OwnRows cd 5 (w.alloc (.cells #[] 5)) w.heap.size (.slice (some ⟨w.heap.size,0,none⟩) 0 0) []:=⟨by simp,[],World.ownsRow_lit w #[] 0 (Nat.le_refl _) (by simp [maxLen]) rfl,rfl⟩
  have hra:RowsAt cd (w.alloc (.cells #[] 5)) (oL (w.alloc (.cells #[] 5)) (.slice (some ⟨w.heap.size,0,none⟩) 0 0)) (some a) l:=hr.same (fun b hb=>Below.heap_alloc w _ b hb) fun b hb=>⟨Nat.lt_of_lt_of_le hb (by simp),fun e=>by simp [Value.ownBlock] at e;have:b<w.heap.size:=hb;omega⟩
  have HO:=Lib.hid hown
  have HR:=Lib.hid hra
  have HM:=Lib.hid hm
  clear hown hra hr hm
  go_enter func44,ntmps44
  go_wp2_with (at_builtin;refine rc iS rfl (.tmp 5) (.tmp 6) rfl _ w.heap.size _ [] l l.length rfl (some a) cap rfl HO.out rfl HR.out (by have:=HM.out;simp [maxLen];omega) (by have:=HM.out;simp;omega) ?_;intro v2 w2 hown2 hb2 hs2;have HO2:=Lib.hid hown2;have HB2:=Lib.hid hb2;clear hown2 hb2 hs2)
  go_ret
  exact ⟨_,rfl,HO2.out,(Below.al (Below.refl _ w) _).trans HB2.out⟩
theorem Io (l:List UInt8) (hl:l.length≤1000000000):FSpec prog 44 [Im l] [] [] (.c (.sl cd l)) [] :=
 aA (fun b W=>by kernel_rfl) rfl fun w S ρ vs hS h=>by
  match vs,h with
  | [_],⟨⟨A,c,rfl,hc,hr⟩,_⟩=>exact (Au A c l w hl (hr.lo hS)).mono fun _ _=>jh
instance:Dp cd:=et _ _ _ _ _
instance:ST prog cd 56 5 1:=⟨iS⟩
def Ip (a:Tm):List UInt8:=aX a.name.size++a.name.data.toList++aX a.am.mode.toNat++aX a.am.units.toNat
def nj:List Tm→List UInt8
 | []=>[]
 | a :: l=>Ip a++nj l
def yS (o:Opn):List UInt8:=bif nk o then tj o.proc++aX (o.label+1).toNat++aX o.cost.toNat++aX o.lower.length++nj o.lower else []
theorem jT {v:Nat} (h:v<18446744073709551616):(aX v).length≤10:=i5 9 v (by
 have e70:(2:Nat) ^ (7*(9+1))=1180591620717411303424:=by decide
 omega)
theorem FP (p:Pr) (h:fo p=true):(tj p).length≤30:=by
 unfold tj
 rw [if_pos h]
 unfold nr
 obtain ⟨a0,a1,b0,b1,c0,c1⟩:=lJ.1 h
 have h1:=jT (v:=p.site.toNat) (by omega)
 have h2:=jT (v:=p.inc.toNat) (by omega)
 have h3:=jT (v:=p.num.toNat) (by omega)
 simp
 omega
theorem wA:∀{l:List Tm} {o:Option ByteArray},tA o l=true→∀a∈l,bE a.name.toList=true∧(a.am=⟨0,0⟩∨aR a.am=true)
 | [],_,_=>by simp
 | x :: l,o,h=>by
  rw [pz] at h
  simp only [Bool.and_eq_true,Bool.or_eq_true] at h
  intro a ha
  rcases List.mem_cons.1 ha with rfl|ha
  ·exact ⟨h.1.1.1,h.1.1.2.imp of_decide_eq_true id⟩
  ·exact wA h.2 a ha
theorem uI {o:Opn} (h:nk o=true):fo o.proc=true∧(o.label = -1∨1≤o.label∧o.label≤99)∧(1≤o.cost∧o.cost≤1073741824)∧o.lower.length≤8∧tA none o.lower=true:=by
 unfold nk at h
 simp only [Bool.and_eq_true,Bool.or_eq_true,decide_eq_true_eq] at h
 exact ⟨h.1.1.1.1.1,h.1.1.1.1.2,⟨h.1.1.1.2,h.1.1.2⟩,h.1.2,h.2⟩
theorem uJ {a:Am} (h:a=⟨0,0⟩∨aR a=true):0≤a.mode∧a.mode≤8∧0≤a.units∧a.units≤8:=by
 rcases h with rfl|h
 ·decide
 ·rcases cA h with ⟨h1,h2⟩|⟨h1,h2,h3⟩
  ·rw [fg] at h1;omega
  ·omega
theorem ta {n:ByteArray} (h:bE n.toList=true):n.size≤12:=by
 have:n.toList.length=n.size:=kt n
 unfold bE at h
 simp only [Bool.and_eq_true,decide_eq_true_eq] at h
 omega
theorem FQ (z:Int) (h0:0≤z) (h1:z≤9000000000000000000):IntKind.u64.wrap z=((z.toNat:Nat):Int):=by
 rw [Int.toNat_of_nonneg h0]
 exact IntWalk.u64_in _ (by omega)
theorem MJ (b:List UInt8) (o:Opn) (hb:b.length≤100000000) {R:List UInt8} (hR:b++yS o=R):FSpec prog 16 [Im b,o.a] [] [] (.c (.sl cd R)) []:=by
 refine bJ func16 ?_
 have kC:=Io b (by omega)
 obtain ⟨v,hv⟩:∃v,nk o=v:=⟨_,rfl⟩
 have kV:=mo o hv
 unfold yS at hR
 rw [hv] at hR
 cases v with
 | false =>
  obtain rfl:R=b:=by rw [←hR];simp
  repeat' (first
   | refine af ?_ ?_
   | (refine aa 9 rfl ?_;first
    | (refine cC [] (kC) ?_)
    | (refine cB [] (kV) ?_))
   | refine en ?_
   | exact ah|refine ae fun hb=>?_
   | (refine aP (qf []) ?_;exact ab))
 | true =>
  obtain ⟨p1,p2,p3,p4,p5⟩:=uI hv
  have hatm:=wA p5
  clear p5
  rw [cond_true] at hR
  have hw1:=FQ (o.label+1) (by omega) (by omega)
  have hw2:=FQ o.cost (by omega) (by omega)
  have hw3:=FQ (o.lower.length:Int) (by omega) (by omega)
  have e3:((o.lower.length:Int)).toNat=o.lower.length:=by omega
  rw [e3] at hw3
  obtain ⟨n1,hn1⟩:∃n,(o.label+1).toNat=n:=⟨_,rfl⟩
  obtain ⟨n2,hn2⟩:∃n,o.cost.toNat=n:=⟨_,rfl⟩
  have l1:n1≤100:=by omega
  have l2:n2≤1073741824:=by omega
  rw [hn1] at hw1 hR
  rw [hn2] at hw2 hR
  obtain ⟨B1,hB1⟩:∃B,b++tj o.proc=B:=⟨_,rfl⟩
  have q1:B1.length≤100000100:=by
   rw [←hB1]
   have:=FP o.proc p1
   simp;omega
  obtain ⟨B2,hB2⟩:∃B,B1++aX n1=B:=⟨_,rfl⟩
  have q2:B2.length≤100000110:=by rw [←hB2];have:=jT (v:=n1) (by omega);simp;omega
  obtain ⟨B3,hB3⟩:∃B,B2++aX n2=B:=⟨_,rfl⟩
  have q3:B3.length≤100000120:=by rw [←hB3];have:=jT (v:=n2) (by omega);simp;omega
  obtain ⟨B4,hB4⟩:∃B,B3++aX o.lower.length=B:=⟨_,rfl⟩
  have q4:B4.length≤100000130:=by rw [←hB4];have:=jT (v:=o.lower.length) (by omega);simp;omega
  have k1:=FM b o.proc (by omega) hB1
  have k2:=lI B1 n1 (by omega) (by omega) hB2
  have k3:=lI B2 n2 (by omega) (by omega) hB3
  have k4:=lI B3 o.lower.length (by omega) (by omega) hB4
  have hR4:B4++nj o.lower=R:=by rw [←hR,←hB4,←hB3,←hB2,←hB1];simp only [List.append_assoc]
  clear hR hB1 hB2 hB3 hB4 hn1 hn2
  repeat' (first
   | refine af ?_ ?_
   | (refine aa 0 rfl ?_;first|refine sx (dM rfl underlying3 underlying96 rfl hw1) ?_|refine sx (dM rfl underlying3 underlying96 rfl hw2) ?_|refine sx (dM rfl underlying3 underlying96 rfl hw3) ?_)
   | (refine aa 9 rfl ?_;first
    | (refine cC [] (kC) ?_)
    | (refine cB [] (kV) ?_)
    | (refine cC [] (k1) ?_)
    | (refine cC [] (k2) ?_)
    | (refine cC [] (k3) ?_)
    | (refine cC [] (k4) ?_))
   | refine en ?_
   | exact ah|refine ae fun hb=>?_)
  refine ao (fun y:Nat×List UInt8=>y.1≤o.lower.length∧y.2.length≤100000130+50*y.1∧y.2++nj (o.lower.drop y.1)=R) (fun y=>cy [] [(0,.c (.sl cd y.2)),(35,.c (.sl cL o.lower)),(36,.i o.lower.length),(37,.i y.1)] []) (fun y=>o.lower.length-y.1) (0,B4) ⟨Nat.zero_le _,by dsimp only;omega,hR4⟩ (by exact ap (qf [])) ?_
  clear hR4 k1 k2 k3 k4 kV kC hw1 hw2 hw3 hb
  rintro ⟨i,B⟩ ⟨hi,hBl,hs⟩
  dsimp only at *
  by_cases hlt:i<o.lower.length
  ·obtain ⟨a,ha⟩:∃a,o.lower[i]? = some a:=⟨_,List.getElem?_eq_getElem hlt⟩
   have ea:o.lower[i]=a:=(List.getElem?_eq_some_iff.1 ha).2
   obtain ⟨z1,z2⟩:=hatm a (ea▸List.getElem_mem hlt)
   have z3:=ta z1
   obtain ⟨m0,m1,m2,m3⟩:=uJ z2
   rw [List.drop_eq_getElem_cons hlt,ea] at hs
   have hs:B++(aX a.name.size++a.name.data.toList++aX a.am.mode.toNat++aX a.am.units.toNat++nj (o.lower.drop (i+1)))=R:=hs
   have hw1:=FQ a.am.mode m0 (by omega)
   have hw2:=FQ a.am.units m2 (by omega)
   obtain ⟨n1,hn1⟩:∃n,a.am.mode.toNat=n:=⟨_,rfl⟩
   obtain ⟨n2,hn2⟩:∃n,a.am.units.toNat=n:=⟨_,rfl⟩
   have l1:n1≤8:=by omega
   have l2:n2≤8:=by omega
   rw [hn1] at hw1 hs
   rw [hn2] at hw2 hs
   obtain ⟨B1,hB1⟩:∃X,B++aX a.name.size++a.name.data.toList=X:=⟨_,rfl⟩
   have q1:B1.length≤100000130+50*i+22:=by rw [←hB1];have:=jT (v:=a.name.size) (by omega);have h9:a.name.data.toList.length=a.name.size:=(by simp);simp only [List.length_append];omega
   obtain ⟨B2,hB2⟩:∃X,B1++aX n1=X:=⟨_,rfl⟩
   have q2:B2.length≤100000130+50*i+32:=by rw [←hB2];have:=jT (v:=n1) (by omega);simp;omega
   obtain ⟨B3,hB3⟩:∃X,B2++aX n2=X:=⟨_,rfl⟩
   have q3:B3.length≤100000130+50*i+42:=by rw [←hB3];have:=jT (v:=n2) (by omega);simp;omega
   have k1:=FN B a.name (by omega) (by omega) hB1
   have k2:=lI B1 n1 (by omega) (by omega) hB2
   have k3:=lI B2 n2 (by omega) (by omega) hB3
   have hs3:B3++nj (o.lower.drop (i+1))=R:=by rw [←hs,←hB3,←hB2,←hB1];simp only [List.append_assoc]
   clear hs hB1 hB2 hB3 hn1 hn2
   repeat' (first
    | refine af ?_ ?_
    | (refine aa 0 rfl ?_;first|refine sx (dM rfl underlying3 underlying96 rfl hw1) ?_|refine sx (dM rfl underlying3 underlying96 rfl hw2) ?_)
    | (refine aa 9 rfl ?_;first
     | (refine cC [] (k1) ?_)
     | (refine cC [] (k2) ?_)
     | (refine cC [] (k3) ?_))
    | refine en ?_
    | exact ah|refine ae fun hb=>?_)
   refine ⟨(i+1,B3),⟨by dsimp only;omega,by dsimp only;omega,hs3⟩,by dsimp only;omega,?_⟩
   exact ap (qf [])
  ·rw [List.drop_eq_nil_of_le (by omega)] at hs
   obtain rfl:B=R:=by rw [←hs];simp [nj]
   repeat' (first
    | refine af ?_ ?_
    | refine en ?_
    | exact ah|refine ae fun hb=>?_
    | (refine aP (qf []) ?_;exact ab))
def Av (l:List UInt8):ByteArray:=⟨l.toArray⟩
theorem yT:∀(l:List UInt8) (s:ByteArray),((l.map fun c=>(c.toNat:Int)).foldl (fun r n=>r.push (UInt8.ofNat n.toNat)) s)=⟨s.data++l.toArray⟩
 | [],s=>by simp
 | c :: l,s=>by
  show ((l.map fun c=>(c.toNat:Int)).foldl (fun r n=>r.push (UInt8.ofNat n.toNat)) (s.push (UInt8.ofNat ((c.toNat:Int)).toNat)))=_
  rw [yT l]
  have e:UInt8.ofNat ((c.toNat:Int)).toNat=c:=by simp
  rw [e]
  obtain ⟨d⟩:=s
  show (⟨d.push c++l.toArray⟩:ByteArray)=⟨d++(c :: l).toArray⟩
  congr 1
  apply Array.ext'
  simp
theorem tc:∀l:List UInt8,(l.map fun c=>[Value.int .u8 (c.toNat:Int)]).flatten=(l.map fun c=>(c.toNat:Int)).map (Value.int .u8)
 | []=>rfl
 | c :: l=>by rw [List.map_cons,List.flatten_cons,tc l];rfl
theorem Iq {P:Program} {o:Oper} {s:Mst} {src dst e:TypeId} {x:Operand} {l:List UInt8} (ho:o.op = .convert src dst x) (hs:P.underlying src=some (.slice e)) (he:P.underlying e=some (.int .u8)) (hd:P.underlying dst=some .string) (hx:s.ev x = .c (.sl cd l)) {r:ByteArray} (hr0:Av l=r):LOp P o s [] ⟨.c (.sc (.string r)),[],[]⟩ :=
 aZ fun c st ρ a w hr h1 _=>by
  subst hr0
  have e1:=h1 x (by simp [ho,Op.operands])
  have hv:=hr.ev x
  rw [e1,hx] at hv
  obtain ⟨A,cap,hv,hcap,xs,hx1,hx2⟩:=hv
  refine ⟨.string (Av l),?_,rfl,fun k hk=>by simp [TV.has,V0.has,D.has] at hk⟩
  have hrun:(Conv.bytesToString (.slice A l.length cap)).run P w = .ok (.string (Av l)) w:=by
   rcases Nat.eq_zero_or_pos l.length with h0|h0
   ·obtain rfl:=List.eq_nil_of_length_eq_zero h0
    cases A with
    | none=>rfl
    | some a =>
     have:=run_bytesToString (P:=P) w a 0 cap [] (by
      have hc:=run_firstCells_some (P:=P) w 1 0 a 0 cap [] rfl (fun j v h=>by simp at h)
      exact hc)
     exact this
   ·obtain ⟨b,off,rfl,_,hcell⟩:=hx2 h0
    have hxs:=Reps.plain hx1
    have hxs2:xs=(l.map fun c=>(c.toNat:Int)).map (Value.int .u8):=by
     rw [hxs,←tc]
    have hc:=run_firstCells_some (P:=P) w 1 l.length ⟨b,off,none⟩ l.length cap xs (by rw [hxs2];simp) (fun j v h=>by rw [dA];exact hcell j v h)
    have hc2:(loadCells ⟨b,off,none⟩ l.length).run P w = .ok ((l.map fun c=>(c.toNat:Int)).map (Value.int .u8)).toArray w:=by
     rw [←hxs2]
     have:(loadCells ⟨b,off,none⟩ (l.length*1)).run P w = .ok xs.toArray w:=hc
     rwa [Nat.mul_one] at this
    rw [run_bytesToString w _ _ _ _ hc2,yT]
    show _=Result.ok (Value.string ⟨l.toArray⟩) w
    congr 2
    show (⟨#[]++l.toArray⟩:ByteArray)=_
    congr 1
    simp
  unfold execOp
  rw [ho]
  simp only [hv,Sem.run_bind,run_convert_bytes_string w src dst e A l.length cap hs he hd,hrun,Result.andThen_ok,Sem.run_pure]
def j9 (l:List UInt8):ByteArray×Nat×Int:=bif !decide ((aK l).2.2=0) then (.empty,0,(aK l).2.2) else bif decide (1024<(aK l).1) then (.empty,0,3) else bif decide (l.length<(aK l).2.1+(aK l).1) then (.empty,0,5) else (Av ((l.drop (aK l).2.1).take (aK l).1),(aK l).2.1+(aK l).1,0)
def LT (t:ByteArray) (k:Nat) (e:Int):TV:=.tup [.one (.sc (.string t)),.one (.sc (.int .i64 (k:Int))),.one (.sc (.int .i64 e))]
theorem f7 {α β γ:Type} {a a':α} {b b':β} {c c':γ} (h:(a,b,c)=(a',b',c')):a=a'∧b=b'∧c=c':=by injection h with h1 h2;injection h2 with h2 h3;exact ⟨h1,h2,h3⟩
theorem LU (l:List UInt8) (hl:l.length≤1000000000) {T:ByteArray} {K:Nat} {E:Int} (hX:j9 l=(T,K,E)):FSpec prog 92 [Im l] [] [] (LT T K E) []:=by
 refine bJ func92 ?_
 have GR:=ct l
 unfold j9 at hX
 obtain ⟨⟨n,k,e⟩,hu⟩:∃x,aK l=x:=⟨_,rfl⟩
 have kU:=I2 l hl hu
 rw [hu] at hX GR
 dsimp only at hX GR
 obtain ⟨b1,b2,b3⟩:=GR
 by_cases he:e=0
 case neg =>
  rw [decide_eq_false he] at hX
  obtain ⟨rfl,rfl,rfl⟩:=f7 hX
  repeat' (first
   | refine af ?_ ?_
   | refine aa 9 rfl (cB [] (kU) ?_)
   | refine en ?_
   | exact ah|(refine ae fun hb=>?_;first|(exact absurd hb he)|skip)
   | (refine gK (qf []) ?_;exact ab))
 subst he
 obtain ⟨b4,b5,b6⟩:=b2 rfl
 rw [decide_eq_true rfl] at hX
 by_cases h1:1024<n
 ·rw [decide_eq_true h1] at hX
  obtain ⟨rfl,rfl,rfl⟩:=f7 hX
  repeat' (first
   | refine af ?_ ?_
   | refine aa 9 rfl (cB [] (kU) ?_)
   | refine en ?_
   | exact ah|refine ae fun hb=>?_
   | (refine gK (qf []) ?_;exact ab))
 rw [decide_eq_false h1] at hX
 have hcv:IntKind.i64.wrap (n:Int)=(n:Int):=IntWalk.i64_in _ (by omega)
 by_cases h2:l.length<k+n
 ·rw [decide_eq_true h2] at hX
  obtain ⟨rfl,rfl,rfl⟩:=f7 hX
  repeat' (first
   | refine af ?_ ?_
   | (refine aa 0 rfl ?_;refine sx (dM rfl underlying96 underlying3 rfl hcv) ?_)
   | refine aa 9 rfl (cB [] (kU) ?_)
   | refine en ?_
   | exact ah|refine ae fun hb=>?_
   | (refine gK (qf []) ?_;exact ab))
 rw [decide_eq_false h2] at hX
 obtain ⟨L',hL'⟩:∃L',(l.take (k+n)).drop k=L':=⟨_,rfl⟩
 have hL2:(l.drop k).take n=L':=by rw [←hL',List.drop_take];congr 1;omega
 rw [hL2] at hX
 obtain ⟨S,hS⟩:∃S,Av L'=S:=⟨_,rfl⟩
 rw [hS] at hX
 obtain ⟨rfl,rfl,rfl⟩:=f7 hX
 repeat' (first
  | refine af ?_ ?_
  | (refine aa 0 rfl ?_;first|refine sx (Iq rfl underlying56 underlying5 underlying9 rfl hS) ?_|refine sx (dM rfl underlying96 underlying3 rfl hcv) ?_)
  | refine aa 9 rfl (cB [] (kU) ?_)
  | (refine aa 14 rfl ?_;refine sx (pg (lo:=k) (hi:=k+n) rfl rfl rfl (.inl ⟨_,rfl,rfl⟩) (.inl ⟨_,rfl,rfl⟩) (by omega) (by omega) hL') ?_)
  | refine en ?_
  | exact ah|refine ae fun hb=>?_
  | (refine gK (qf []) ?_;exact ab))
def I4 (l:List UInt8) (limit over:Int):Int:=bif decide ((aK l).2.2=0) && decide (limit<((aK l).1:Int)) then over else (aK l).2.2
def th (all:List UInt8) (at_:Nat) (err limit over:Int):Int×Nat×Int:=bif !decide (err=0) then (0,at_,err) else bif !decide (I4 (all.drop at_) limit over=0) then (0,at_,I4 (all.drop at_) limit over) else (((aK (all.drop at_)).1:Int),at_+(aK (all.drop at_)).2.1,0)
def F8 (all:List UInt8) (at_:Nat) (err:Int):ByteArray×Nat×Int:=bif !decide (err=0) then (.empty,at_,err) else ((j9 (all.drop at_)).1,at_+(j9 (all.drop at_)).2.1,(j9 (all.drop at_)).2.2)
theorem td {all:List UInt8} {at_:Nat} {err limit over v e:Int} {k:Nat} (h:th all at_ err limit over=(v,k,e)) (ha:at_≤all.length) (ho:over≠0):k≤all.length∧(err≠0→e≠0)∧(0≤limit→0≤v∧v≤limit):=by
 unfold th at h
 by_cases he:err=0
 ·rw [decide_eq_true he] at h
  by_cases h1:I4 (all.drop at_) limit over=0
  ·rw [decide_eq_true h1] at h
   obtain ⟨rfl,rfl,rfl⟩:=f7 h
   have h2:(aK (all.drop at_)).2.2=0∧¬limit<((aK (all.drop at_)).1:Int):=by
    unfold I4 at h1
    by_cases h3:(aK (all.drop at_)).2.2=0
    ·refine ⟨h3,fun h4=>?_⟩
     rw [decide_eq_true h3,decide_eq_true h4] at h1
     exact ho h1
    ·rw [decide_eq_false h3] at h1
     exact absurd h1 h3
   have hb:=(ct (all.drop at_)).2.1 h2.1
   rw [List.length_drop] at hb
   exact ⟨by omega,fun h=>absurd he h,fun h0=>⟨by omega,by omega⟩⟩
  ·rw [decide_eq_false h1] at h
   obtain ⟨rfl,rfl,rfl⟩:=f7 h
   exact ⟨ha,fun h=>absurd he h,fun h0=>⟨Int.le_refl _,h0⟩⟩
 ·rw [decide_eq_false he] at h
  obtain ⟨rfl,rfl,rfl⟩:=f7 h
  exact ⟨ha,fun h=>h,fun h0=>⟨Int.le_refl _,h0⟩⟩
abbrev Kl (all:List UInt8) (at_:Nat) (err:Int):Box:=.box 101 [.sl cd all,.sc (.int .i64 (at_:Int)),.sc (.int .i64 err)]
theorem oJ (all:List UInt8) (at_:Nat) (err limit over:Int) (hl:all.length≤1000000000) (ha:at_≤all.length) (h0:0≤limit) (h1:limit≤1073741824) (ho:over≠0) {v e:Int} {k:Nat} (hR:th all at_ err limit over=(v,k,e)):FSpec prog 49 [.one (.ptr 0 0),.one (.sc (.int .i64 limit)),.one (.sc (.int .i64 over))] [(0,Kl all at_ err)] [] (.c (.sc (.int .i64 v))) [(0,some (Kl all k e))]:=by
 refine bJ func49 ?_
 unfold th at hR
 by_cases he:err=0
 case neg =>
  rw [decide_eq_false he] at hR
  obtain ⟨rfl,rfl,rfl⟩:=f7 hR
  repeat' (first
   | refine af ?_ ?_
   | refine en ?_
   | exact ah|(refine ae fun hb=>?_;first|(exact absurd hb he)|skip)
   | (refine aP (qf []) ?_;exact ab))
 subst he
 rw [decide_eq_true rfl] at hR
 have hR:(bif !decide (I4 (all.drop at_) limit over=0) then (0,at_,I4 (all.drop at_) limit over) else (((aK (all.drop at_)).1:Int),at_+(aK (all.drop at_)).2.1,0))=(v,k,e):=hR
 obtain ⟨D',hD'⟩:∃D',all.drop at_=D':=⟨_,rfl⟩
 have hD2:all.drop ((at_:Int)).toNat=D':=by rw [Int.toNat_natCast];exact hD'
 have hDl:D'.length=all.length-at_:=by rw [←hD'];simp
 rw [hD'] at hR
 have GR:=ct D'
 unfold I4 at hR
 obtain ⟨⟨n,m,x⟩,hu⟩:∃x,aK D'=x:=⟨_,rfl⟩
 have kU:=I2 D' (by omega) hu
 rw [hu] at hR GR
 dsimp only at hR GR
 obtain ⟨b1,b2,b3⟩:=GR
 have hw:IntKind.u64.wrap limit=limit:=IntWalk.u64_in _ (by omega)
 by_cases hx:x=0
 case neg =>
  rw [decide_eq_false hx] at hR
  have hR:(bif !decide (x=0) then (0,at_,x) else ((n:Int),at_+m,0))=(v,k,e):=hR
  rw [decide_eq_false hx] at hR
  obtain ⟨rfl,rfl,rfl⟩:=f7 hR
  repeat' (first
   | refine af ?_ ?_
   | (refine aa 0 rfl ?_;refine sx (dM rfl underlying3 underlying96 rfl hw) ?_)
   | refine aa 9 rfl (cB [] (kU) ?_)
   | (refine aa 14 rfl ?_;refine sx (cR (z:=(at_:Int)) rfl rfl rfl rfl (by omega) (by omega) hD2) ?_)
   | refine en ?_
   | exact ah|(refine ae fun hb=>?_;first|(exact absurd hb hx)|(exact absurd rfl hb)|skip)
   | (refine aP (qf []) ?_;exact ab))
 subst hx
 obtain ⟨c1,c2,c3⟩:=b2 rfl
 by_cases hlt:limit<(n:Int)
 ·rw [decide_eq_true hlt] at hR
  have hR:(bif !decide (over=0) then (0,at_,over) else ((n:Int),at_+m,0))=(v,k,e):=hR
  rw [decide_eq_false ho] at hR
  obtain ⟨rfl,rfl,rfl⟩:=f7 hR
  repeat' (first
   | refine af ?_ ?_
   | (refine aa 0 rfl ?_;refine sx (dM rfl underlying3 underlying96 rfl hw) ?_)
   | refine aa 9 rfl (cB [] (kU) ?_)
   | (refine aa 14 rfl ?_;refine sx (cR (z:=(at_:Int)) rfl rfl rfl rfl (by omega) (by omega) hD2) ?_)
   | refine en ?_
   | exact ah|(refine ae fun hb=>?_;first|(exact absurd hb ho)|skip)
   | (refine aP (qf []) ?_;exact ab))
 ·rw [decide_eq_false hlt] at hR
  have hR:((n:Int),at_+m,(0:Int))=(v,k,e):=hR
  obtain ⟨rfl,rfl,rfl⟩:=f7 hR
  have hcv:IntKind.i64.wrap (n:Int)=(n:Int):=IntWalk.i64_in _ (by omega)
  repeat' (first
   | refine af ?_ ?_
   | (refine aa 0 rfl ?_;first|refine sx (dM rfl underlying3 underlying96 rfl hw) ?_|refine sx (dM rfl underlying96 underlying3 rfl hcv) ?_)
   | refine aa 9 rfl (cB [] (kU) ?_)
   | (refine aa 14 rfl ?_;refine sx (cR (z:=(at_:Int)) rfl rfl rfl rfl (by omega) (by omega) hD2) ?_)
   | refine en ?_
   | exact ah|refine ae fun hb=>?_
   | (refine aP (qf []) ?_;exact ab))
theorem LV (all:List UInt8) (at_:Nat) (err:Int) (hl:all.length≤1000000000) (ha:at_≤all.length) {t:ByteArray} {e:Int} {k:Nat} (hR:F8 all at_ err=(t,k,e)) (hk:k≤all.length):FSpec prog 50 [.one (.ptr 0 0)] [(0,Kl all at_ err)] [] (.c (.sc (.string t))) [(0,some (Kl all k e))]:=by
 refine bJ func50 ?_
 unfold F8 at hR
 by_cases he:err=0
 case neg =>
  rw [decide_eq_false he] at hR
  obtain ⟨rfl,rfl,rfl⟩:=f7 hR
  repeat' (first
   | refine af ?_ ?_
   | refine en ?_
   | exact ah|(refine ae fun hb=>?_;first|(exact absurd hb he)|skip)
   | (refine aP (qf []) ?_;exact ab))
 subst he
 rw [decide_eq_true rfl] at hR
 obtain ⟨D',hD'⟩:∃D',all.drop at_=D':=⟨_,rfl⟩
 have hD2:all.drop ((at_:Int)).toNat=D':=by rw [Int.toNat_natCast];exact hD'
 have hDl:D'.length=all.length-at_:=by rw [←hD'];simp
 rw [hD'] at hR
 obtain ⟨⟨n,m,x⟩,hu⟩:∃x,j9 D'=x:=⟨_,rfl⟩
 have kU:=LU D' (by omega) hu
 rw [hu] at hR
 have hR:(n,at_+m,x)=(t,k,e):=hR
 obtain ⟨rfl,rfl,rfl⟩:=f7 hR
 repeat' (first
  | refine af ?_ ?_
  | refine aa 9 rfl (cB [] (kU) ?_)
  | (refine aa 14 rfl ?_;refine sx (cR (z:=(at_:Int)) rfl rfl rfl rfl (by omega) (by omega) hD2) ?_)
  | refine en ?_
  | exact ah|refine ae fun hb=>?_
  | (refine aP (qf []) ?_;exact ab))
theorem LW (all:List UInt8) (at_:Nat) (err:Int) (hl:all.length≤1000000000) (ha:at_≤all.length) {p:Pr} {e:Int} {m:Nat} (hR:dD (all.drop at_)=(p,m,e)) (hk:at_+m≤all.length):FSpec prog 48 [.one (.ptr 0 0)] [(0,Kl all at_ err)] [] (.v p.a) [(0,some (Kl all (at_+m) e))]:=by
 refine bJ func48 ?_
 obtain ⟨D',hD'⟩:∃D',all.drop at_=D':=⟨_,rfl⟩
 have hD2:all.drop ((at_:Int)).toNat=D':=by rw [Int.toNat_natCast];exact hD'
 have hDl:D'.length=all.length-at_:=by rw [←hD'];simp
 rw [hD'] at hR
 have kP:=LS D' (by omega) hR
 repeat' (first
  | refine af ?_ ?_
  | refine aa 9 rfl (cB [] (kP) ?_)
  | (refine aa 14 rfl ?_;refine sx (cR (z:=(at_:Int)) rfl rfl rfl rfl (by omega) (by omega) hD2) ?_)
  | refine en ?_
  | exact ah|refine ae fun hb=>?_
  | (refine aP (qf []) ?_;exact ab))
def iE (all:List UInt8) (s:Nat×Int):Tm×Nat×Int :=
 let t:=F8 all s.1 s.2
 let m:=th all t.2.1 t.2.2 1073741824 16
 let u:=th all m.2.1 m.2.2 1073741824 16
 (⟨t.1,⟨m.1,u.1⟩⟩,u.2.1,u.2.2)
def te (all:List UInt8):Nat→Nat×Int→List Tm→List Tm×Nat×Int
 | 0,s,acc=>(acc,s.1,s.2)
 | n+1,s,acc=>bif decide (s.2=0) then te all n (iE all s).2 (acc++[(iE all s).1]) else (acc,s.1,s.2)
def MK:Opn:=⟨⟨0,0,0⟩,0,0,[]⟩
def BD (o:Opn) (k:Nat) (e:Int):Opn×Nat×Int:=bif decide (e=0) && nk o then (o,k,0) else (MK,0,bif decide (e=0) then 2 else e)
def yU (all:List UInt8):Opn×Nat×Int :=
 let p:=dD all
 let a:=th all p.2.1 p.2.2 1073741824 16
 let c:=th all a.2.1 a.2.2 1073741824 16
 let n:=th all c.2.1 c.2.2 8 4
 let g:=te all n.1.toNat n.2 []
 BD ⟨p.1,a.1-1,c.1,g.1⟩ g.2.1 g.2.2
def LX (o:Opn) (k:Nat) (e:Int):TV:=.tup [o.a,.one (.sc (.int .i64 (k:Int))),.one (.sc (.int .i64 e))]
theorem FR (l:List UInt8):(j9 l).2.1≤l.length:=by
 unfold j9
 by_cases h1:(aK l).2.2=0
 ·rw [decide_eq_true h1]
  by_cases h2:1024<(aK l).1
  ·rw [decide_eq_true h2];exact Nat.zero_le _
  ·rw [decide_eq_false h2]
   by_cases h3:l.length<(aK l).2.1+(aK l).1
   ·rw [decide_eq_true h3];exact Nat.zero_le _
   ·rw [decide_eq_false h3]
    show (aK l).2.1+(aK l).1≤_
    omega
 ·rw [decide_eq_false h1];exact Nat.zero_le _
theorem Km {all:List UInt8} {at_:Nat} {err:Int} (ha:at_≤all.length):(F8 all at_ err).2.1≤all.length:=by
 unfold F8
 cases decide (err=0) with
 | false=>exact ha
 | true =>
  have:=FR (all.drop at_)
  rw [List.length_drop] at this
  show at_+(j9 (all.drop at_)).2.1≤_
  omega
theorem LY (all:List UInt8) (hl:all.length≤1000000000) (hp8:(dD all).2.1≤all.length) {o:Opn} {k:Nat} {e:Int} (hR:yU all=(o,k,e)):FSpec prog 17 [Im all] [] [] (LX o k e) []:=by
 refine bJ func17 ?_
 unfold yU at hR
 obtain ⟨⟨p,k0,e0⟩,hp⟩:∃x,dD all=x:=⟨_,rfl⟩
 rw [hp] at hR hp8
 dsimp only at hR hp8
 have kP:=LW all 0 0 hl (Nat.zero_le _) hp (by omega)
 rw [Nat.zero_add] at kP
 obtain ⟨⟨v1,k1,e1⟩,h1⟩:∃x,th all k0 e0 1073741824 16=x:=⟨_,rfl⟩
 have kA:=oJ all k0 e0 1073741824 16 hl hp8 (by omega) (by omega) (by omega) h1
 obtain ⟨a1,_,a2⟩:=td h1 hp8 (by omega)
 rw [h1] at hR
 dsimp only at hR
 obtain ⟨⟨v2,k2,e2⟩,h2⟩:∃x,th all k1 e1 1073741824 16=x:=⟨_,rfl⟩
 have kB:=oJ all k1 e1 1073741824 16 hl a1 (by omega) (by omega) (by omega) h2
 obtain ⟨b1,_,b2⟩:=td h2 a1 (by omega)
 rw [h2] at hR
 dsimp only at hR
 obtain ⟨⟨v3,k3,e3⟩,h3⟩:∃x,th all k2 e2 8 4=x:=⟨_,rfl⟩
 have kC:=oJ all k2 e2 8 4 hl b1 (by omega) (by omega) (by omega) h3
 obtain ⟨c1,_,c2⟩:=td h3 b1 (by omega)
 rw [h3] at hR
 dsimp only at hR
 obtain ⟨n,rfl⟩:∃n:Nat,v3=n:=⟨v3.toNat,(Int.toNat_of_nonneg (c2 (by omega)).1).symm⟩
 have hn8:n≤8:=by have:=(c2 (by omega)).2;omega
 have ha2:=a2 (by omega)
 rw [Int.toNat_natCast] at hR
 obtain ⟨⟨G,K,E⟩,hG⟩:∃x,te all n (k3,e3) []=x:=⟨_,rfl⟩
 rw [hG] at hR
 dsimp only at hR
 clear hp h1 h2 h3 a2 b2 c2
 repeat' (first
  | refine af ?_ ?_
  | (refine aa 9 rfl ?_;first
   | (refine cH (qf [(0,11)]) (kP) ?_)
   | (refine cH (qf [(0,11)]) (kA) ?_)
   | (refine cH (qf [(0,11)]) (kB) ?_)
   | (refine cH (qf [(0,11)]) (kC) ?_))
  | refine en ?_
  | exact ah|refine ae fun hb=>?_)
 refine jJ 6 5 1000 31 cL rfl rfl rfl rfl ?_
 refine ao (fun y:Nat×(Nat×Int)×List Tm=>y.2.1.1≤all.length∧y.2.2.length+y.1≤8∧te all y.1 y.2.1 y.2.2=(G,K,E)) (fun y=>cy [2,6,11,1000] [(2,.c (.ptr 2 0)),(5,.c (.ptr 11 0)),(6,.c (.ptr 6 0)),(7,.i y.1)] [(2,.box 41 [.sc (.int .i64 0),.sc (.int .i64 0),.sc (.int .i64 0),.sc (.int .i64 0),.sc (.int .i64 0),.sc (.slice none 0 0)]),(6,.box 41 [.sc (.int .i64 p.site),.sc (.int .i64 p.inc),.sc (.int .i64 p.num),.sc (.int .i64 (v1-1)),.sc (.int .i64 v2),.own 1000]),(11,Kl all y.2.1.1 y.2.1.2),(1000,.arr 31 cL y.2.2)]) (fun y=>y.1) (n,(k3,e3),[]) ⟨c1,by dsimp only;simp;omega,hG⟩ (by exact ap (qf [])) ?_
 clear kP kA kB kC hG
 rintro ⟨m,⟨at_,err⟩,acc⟩ ⟨hat,hm8,hs⟩
 dsimp only at *
 by_cases hgo:m=0∨err≠0
 ·have hend:(acc,at_,err)=(G,K,E):=by
   rw [←hs]
   cases m with
   | zero=>rfl
   | succ m =>
    have:err≠0:=hgo.resolve_left (by omega)
    show _=bif decide (err=0) then _ else _
    rw [decide_eq_false this]
    rfl
  obtain ⟨rfl,rfl,rfl⟩:=f7 hend
  have hgo2:0<(m:Int)→err=0→False:=fun h1 h2=>by rcases hgo with h|h;omega;exact h h2
  unfold BD at hR
  obtain ⟨b,hb0⟩:∃b,nk ⟨p,v1-1,v2,acc⟩=b:=⟨_,rfl⟩
  have kV:=mo _ hb0
  rw [hb0] at hR
  clear hs hend hgo
  by_cases he:err=0
  ·subst he
   rw [decide_eq_true rfl] at hR
   cases b with
   | true =>
    have hR:((⟨p,v1-1,v2,acc⟩:Opn),at_,(0:Int))=(o,k,e):=hR
    obtain ⟨rfl,rfl,rfl⟩:=f7 hR
    repeat' (first
     | refine af ?_ ?_
     | refine aa 9 rfl (cB [1000] (kV) ?_)
     | refine en ?_
     | exact ah|(refine ae fun hb=>?_;first|(exact (hgo2 (by omega) rfl).elim)|skip)
     | (refine gK (qf []) ?_;exact ab))
   | false =>
    have hR:(MK,0,(2:Int))=(o,k,e):=hR
    obtain ⟨rfl,rfl,rfl⟩:=f7 hR
    repeat' (first
     | refine af ?_ ?_
     | refine aa 9 rfl (cB [1000] (kV) ?_)
     | refine en ?_
     | exact ah|(refine ae fun hb=>?_;first|(exact (hgo2 (by omega) rfl).elim)|skip)
     | (refine gK (qf []) ?_;exact ab))
  ·rw [decide_eq_false he] at hR
   have hR:(MK,0,err)=(o,k,e):=hR
   obtain ⟨rfl,rfl,rfl⟩:=f7 hR
   repeat' (first
    | refine af ?_ ?_
    | refine aa 9 rfl (cB [1000] (kV) ?_)
    | refine en ?_
    | exact ah|(refine ae fun hb=>?_;first|(exact absurd hb he)|(exact absurd (by assumption) he)|skip)
    | (refine gK (qf []) ?_;exact ab))
 ·obtain ⟨hm0,he0⟩:m≠0∧err=0:=⟨fun h=>hgo (.inl h),Classical.byContradiction fun h=>hgo (.inr h)⟩
  subst he0
  obtain ⟨j,rfl⟩:∃j,m=j+1:=⟨m-1,by omega⟩
  have hs:te all j (iE all (at_,0)).2 (acc++[(iE all (at_,0)).1])=(G,K,E):=hs
  unfold iE at hs
  have hk1:=Km (err:=0) hat
  obtain ⟨⟨t,q1,f1⟩,h1⟩:∃x,F8 all at_ 0=x:=⟨_,rfl⟩
  rw [h1] at hk1
  have kT:=LV all at_ 0 hl hat h1 hk1
  dsimp only at hs
  rw [h1] at hs
  dsimp only at hs hk1
  obtain ⟨⟨u1,q2,f2⟩,h2⟩:∃x,th all q1 f1 1073741824 16=x:=⟨_,rfl⟩
  have kM:=oJ all q1 f1 1073741824 16 hl hk1 (by omega) (by omega) (by omega) h2
  obtain ⟨hk2,_,_⟩:=td h2 hk1 (by omega)
  rw [h2] at hs
  dsimp only at hs
  obtain ⟨⟨u2,q3,f3⟩,h3⟩:∃x,th all q2 f2 1073741824 16=x:=⟨_,rfl⟩
  have kU:=oJ all q2 f2 1073741824 16 hl hk2 (by omega) (by omega) (by omega) h3
  obtain ⟨hk3,_,_⟩:=td h3 hk2 (by omega)
  rw [h3] at hs
  dsimp only at hs
  clear h1 h2 h3 hgo
  repeat' (first
   | refine af ?_ ?_
   | (refine aa 8 rfl ?_;refine bc (ak rfl rfl (aI rfl rfl) (aO [⟨t,⟨u1,u2⟩⟩] rfl rfl rfl rfl) rfl aJ aJ) rfl rfl rfl ?_)
   | (refine aa 9 rfl ?_;first
    | (refine cH (qf [(0,11)]) (kT) ?_)
    | (refine cH (qf [(0,11)]) (kM) ?_)
    | (refine cH (qf [(0,11)]) (kU) ?_))
   | refine en ?_
   | exact ah|refine ae fun hb=>?_)
  refine ⟨(j,(q3,f3),acc++[⟨t,⟨u1,u2⟩⟩]),⟨hk3,by simp;omega,hs⟩,by dsimp only;omega,?_⟩
  exact ap (qf [(1000,50)])
theorem Kn {all:List UInt8} {at_ n m:Nat} {limit over:Int} (h:aK (all.drop at_)=(n,m,0)) (hl:¬limit<(n:Int)):th all at_ 0 limit over=((n:Int),at_+m,0):=by
 unfold th I4
 rw [h]
 dsimp only
 rw [decide_eq_false hl]
 rfl
theorem oK {all D:List UInt8} {at_ n:Nat} {limit over:Int} (h:all.drop at_=aX n++D) (hn:n<2 ^ 64) (hl:¬limit<(n:Int)):th all at_ 0 limit over=((n:Int),at_+(aX n).length,0)∧all.drop (at_+(aX n).length)=D:=by
 refine ⟨Kn (by rw [h];exact i6 hn D) hl,?_⟩
 rw [←List.drop_drop,h,List.drop_left]
theorem FS {l:List UInt8} {n q:Nat} (h:aK l=(n,q,0)) (h1:¬1024<n) (h2:¬l.length<q+n):j9 l=(Av ((l.drop q).take n),q+n,0):=by
 unfold j9
 rw [h]
 dsimp only
 rw [decide_eq_false h1,decide_eq_false h2]
 rfl
theorem Ko {all:List UInt8} {at_:Nat} {t:ByteArray} {m:Nat} {e:Int} (h:j9 (all.drop at_)=(t,m,e)):F8 all at_ 0=(t,at_+m,e):=by
 unfold F8
 rw [h]
 rfl
theorem yV (s:ByteArray):Av s.data.toList=s:=rfl
theorem Ir {all D:List UInt8} {at_:Nat} {s:ByteArray} (h:all.drop at_=aX s.size++(s.data.toList++D)) (hn:s.size≤1024):F8 all at_ 0=(s,at_+((aX s.size).length+s.size),0)∧all.drop (at_+((aX s.size).length+s.size))=D:=by
 have hl:s.data.toList.length=s.size:=rfl
 have hu:aK (all.drop at_)=(s.size,(aX s.size).length,0):=by rw [h];exact i6 (by omega) _
 have hd:(all.drop at_).drop (aX s.size).length=s.data.toList++D:=by rw [h,List.drop_left]
 refine ⟨Ko ?_,?_⟩
 ·rw [FS hu (by omega) (by rw [h];simp only [List.length_append];omega),hd,←hl,List.take_left,yV]
 ·rw [←List.drop_drop,←List.drop_drop,hd,←hl,List.drop_left]
theorem yW {l:List UInt8} {p:Pr} {m:Nat} (h:dD l=(p,m,0)):∃a b c n1 n2 n3,aK l=(a,n1,0)∧aK (l.drop n1)=(b,n2,0)∧aK (l.drop (n1+n2))=(c,n3,0)∧y8 a b c (n1+n2+n3)=(p,m,0)∧m=n1+n2+n3:=by
 obtain ⟨⟨a,n1,x1⟩,h1⟩:∃x,aK l=x:=⟨_,rfl⟩
 by_cases e1:x1=0
 case neg =>
  rw [yN h1 e1] at h
  obtain ⟨_,_,h⟩:=f7 h
  exact absurd h e1
 subst e1
 obtain ⟨⟨b,n2,x2⟩,h2⟩:∃x,aK (l.drop n1)=x:=⟨_,rfl⟩
 by_cases e2:x2=0
 case neg =>
  rw [yO h1 h2 e2] at h
  obtain ⟨_,_,h⟩:=f7 h
  exact absurd h e2
 subst e2
 obtain ⟨⟨c,n3,x3⟩,h3⟩:∃x,aK (l.drop (n1+n2))=x:=⟨_,rfl⟩
 by_cases e3:x3=0
 case neg =>
  rw [yP h1 h2 h3 e3] at h
  obtain ⟨_,_,h⟩:=f7 h
  exact absurd h e3
 subst e3
 rw [yQ h1 h2 h3] at h
 refine ⟨a,b,c,n1,n2,n3,h1,h2,h3,h,?_⟩
 unfold y8 at h
 split at h
 ·obtain ⟨_,h,_⟩:=f7 h
  exact h.symm
 ·obtain ⟨_,_,h⟩:=f7 h
  exact absurd h (by decide)
theorem FT (l:List UInt8):(dD l).2.1≤l.length:=by
 obtain ⟨⟨p,m,e⟩,h⟩:∃x,dD l=x:=⟨_,rfl⟩
 rw [h]
 show m≤l.length
 by_cases he:e=0
 ·subst he
  obtain ⟨a,b,c,n1,n2,n3,h1,h2,h3,h4,rfl⟩:=yW h
  have b1:=(ct l).2.1 (by rw [h1])
  have b2:=(ct (l.drop n1)).2.1 (by rw [h2])
  have b3:=(ct (l.drop (n1+n2))).2.1 (by rw [h3])
  rw [h1] at b1
  rw [h2,List.length_drop] at b2
  rw [h3,List.length_drop] at b3
  dsimp only at b1 b2 b3
  omega
 ·unfold dD y8 at h
  dsimp only at h
  split at h
  ·obtain ⟨_,rfl,_⟩:=f7 h
   exact Nat.zero_le _
  ·split at h
   ·obtain ⟨_,rfl,_⟩:=f7 h
    exact Nat.zero_le _
   ·split at h
    ·obtain ⟨_,rfl,_⟩:=f7 h
     exact Nat.zero_le _
    ·split at h
     ·obtain ⟨_,_,h⟩:=f7 h
      exact absurd h.symm he
     ·obtain ⟨_,rfl,_⟩:=f7 h
      exact Nat.zero_le _
theorem C9 {all:List UInt8} {at_ q1 q2 q3:Nat} {t:ByteArray} {u1 u2 f1 f2 f3:Int} {e:Int} (h1:F8 all at_ e=(t,q1,f1)) (h2:th all q1 f1 1073741824 16=(u1,q2,f2)) (h3:th all q2 f2 1073741824 16=(u2,q3,f3)):iE all (at_,e)=(⟨t,⟨u1,u2⟩⟩,q3,f3):=by
 unfold iE
 dsimp only
 rw [h1]
 dsimp only
 rw [h2]
 dsimp only
 rw [h3]
theorem Da {all:List UInt8} {n at_ q3:Nat} {x:Tm} {f3:Int} {acc:List Tm} (h:iE all (at_,0)=(x,q3,f3)):te all (n+1) (at_,0) acc=te all n (q3,f3) (acc++[x]):=by
 show (bif decide ((0:Int)=0) then te all n (iE all (at_,0)).2 (acc++[(iE all (at_,0)).1]) else _)=_
 rw [h]
 rfl
theorem Aw {all D:List UInt8} {at_:Nat} {a:Tm} (h:all.drop at_=Ip a++D) (hn:a.name.size≤1024) (hm:0≤a.am.mode∧a.am.mode≤8) (hu:0≤a.am.units∧a.am.units≤8):iE all (at_,0)=(a,at_+(Ip a).length,0)∧all.drop (at_+(Ip a).length)=D:=by
 unfold Ip at h
 have hl:a.name.data.toList.length=a.name.size:=rfl
 obtain ⟨r1,d1⟩:=Ir (D:=aX a.am.mode.toNat++(aX a.am.units.toNat++D)) (by rw [h];simp only [List.append_assoc]) hn
 obtain ⟨r2,d2⟩:=oK (limit:=1073741824) (over:=16) d1 (by omega) (by omega)
 obtain ⟨r3,d3⟩:=oK (limit:=1073741824) (over:=16) d2 (by omega) (by omega)
 have hL:at_+(Ip a).length=at_+((aX a.name.size).length+a.name.size)+(aX a.am.mode.toNat).length+(aX a.am.units.toNat).length:=by
  unfold Ip
  simp only [List.length_append]
  omega
 refine ⟨?_,by rw [hL];exact d3⟩
 rw [C9 r1 r2 r3,hL,Int.toNat_of_nonneg hm.1,Int.toNat_of_nonneg hu.1]
theorem yX {all D:List UInt8}:∀(l:List Tm) (at_:Nat) (acc:List Tm),all.drop at_=nj l++D→(∀a∈l,bE a.name.toList=true∧(a.am=⟨0,0⟩∨aR a.am=true))→te all l.length (at_,0) acc=(acc++l,at_+(nj l).length,0)
 | [],at_,acc,_,_=>by
  show (acc,at_,(0:Int))=(acc++[],at_+0,0)
  rw [List.append_nil]
  rfl
 | a :: l,at_,acc,h,ha=>by
  obtain ⟨hn,hm⟩:=ha a (List.mem_cons_self ..)
  have hs:=uJ hm
  have hz:=ta hn
  obtain ⟨r,d⟩:=Aw (a:=a) (D:=nj l++D) (by rw [h];show Ip a++nj l++D=_;rw [List.append_assoc]) (by omega) ⟨hs.1,by omega⟩ ⟨hs.2.2.1,hs.2.2.2⟩
  show te all (l.length+1) (at_,0) acc=_
  rw [Da r,yX l _ _ d fun b hb=>ha b (List.mem_cons_of_mem _ hb)]
  show (acc++[a]++l,_,(0:Int))=(acc++a :: l,at_+(Ip a++nj l).length,0)
  rw [List.append_assoc,List.length_append,Nat.add_assoc]
  rfl
theorem FU {all:List UInt8} {p:Pr} {v1 v2 v3 e0 e1 e2 e3:Int} {k0 k1 k2 k3:Nat} (h0:dD all=(p,k0,e0)) (h1:th all k0 e0 1073741824 16=(v1,k1,e1)) (h2:th all k1 e1 1073741824 16=(v2,k2,e2)) (h3:th all k2 e2 8 4=(v3,k3,e3)) {G:List Tm} {K:Nat} {E:Int} (h4:te all v3.toNat (k3,e3) []=(G,K,E)):yU all=BD ⟨p,v1-1,v2,G⟩ K E:=by
 unfold yU
 rw [h0]
 dsimp only
 rw [h1]
 dsimp only
 rw [h2]
 dsimp only
 rw [h3]
 dsimp only
 rw [h4]
theorem yY {o:Opn} (hv:nk o=true) (raw:List UInt8):yU (yS o++raw)=(o,(yS o).length,0):=by
 obtain ⟨p1,p2,p3,p4,p5⟩:=uI hv
 have hatm:=wA p5
 obtain ⟨all,hall⟩:∃a,yS o++raw=a:=⟨_,rfl⟩
 have hP:yS o=nr o.proc++(aX (o.label+1).toNat++(aX o.cost.toNat++(aX o.lower.length++nj o.lower))):=by
  unfold yS tj
  rw [hv,cond_true,if_pos p1]
  simp only [List.append_assoc]
 have e0:all=nr o.proc++(aX (o.label+1).toNat++(aX o.cost.toNat++(aX o.lower.length++(nj o.lower++raw)))):=by
  rw [←hall,hP]
  simp only [List.append_assoc]
 have r0:dD all=(o.proc,(nr o.proc).length,0):=by rw [e0];exact BG p1 _
 have d0:all.drop (nr o.proc).length=aX (o.label+1).toNat++(aX o.cost.toNat++(aX o.lower.length++(nj o.lower++raw))):=by rw [e0,List.drop_left]
 obtain ⟨r1,d1⟩:=oK (limit:=1073741824) (over:=16) d0 (by omega) (by omega)
 obtain ⟨r2,d2⟩:=oK (limit:=1073741824) (over:=16) d1 (by omega) (by omega)
 obtain ⟨r3,d3⟩:=oK (limit:=8) (over:=4) d2 (by omega) (by omega)
 have r4:=yX o.lower _ [] d3 hatm
 rw [List.nil_append] at r4
 rw [Int.toNat_of_nonneg (by omega)] at r1 r2
 rw [hall,FU r0 r1 r2 r3 r4]
 have eo:(⟨o.proc,o.label+1-1,o.cost,o.lower⟩:Opn)=o:=by
  obtain ⟨a,b,c,d⟩:=o
  simp only [Opn.mk.injEq,true_and,and_true]
  omega
 rw [eo,hP]
 unfold BD
 rw [hv]
 show (o,_,(0:Int))=_
 simp only [List.length_append,Nat.add_assoc]
theorem FV (o:Opn):FSpec prog 18 [o.a,o.a] [] [] (.b true) []:=by
 refine bJ func18 ?_
 have kA:=sV o.lower o.lower
 rw [decide_eq_true rfl] at kA
 repeat' (first
  | refine af ?_ ?_
  | refine aa 9 rfl (cB [] (kA) ?_)
  | refine en ?_
  | exact ah|(refine ae fun hb=>?_;first|(exact absurd rfl hb)|skip)
  | (refine aP (qf []) ?_;exact ab))
theorem Is (L:List Opn):FSpec prog 11 [.one (.sl uh L),.one (.sl uh L)] [] [] (.b true) []:=by
 refine bJ func11 ?_
 refine bY (fun c ρ a w hr=>gc (t:=0) hr rfl) (fun hl0=>?_)
 repeat' (first
  | refine af ?_ ?_
  | refine en ?_
  | exact ah|(refine ae fun hb=>?_;first|(exact absurd rfl hb)|skip))
 refine ao (fun i=>i≤L.length) (fun i=>cy [] [(0,.c (.sl uh L)),(1,.c (.sl uh L)),(5,.i i)] []) (fun i=>L.length-i) 0 (Nat.zero_le _) (by exact ap (qf [])) ?_
 intro i hi
 by_cases hlt:i<L.length
 ·obtain ⟨o,ho⟩:∃o,L[i]? = some o:=⟨_,List.getElem?_eq_getElem hlt⟩
  have eo:L[i]=o:=(List.getElem?_eq_some_iff.1 ho).2
  have kS:=FV o
  repeat' (first
   | refine af ?_ ?_
   | refine aa 9 rfl (cB [] (kS) ?_)
   | refine en ?_
   | exact ah|refine ae fun hb=>?_)
  refine ⟨i+1,hlt,by omega,?_⟩
  exact ap (qf [])
 ·repeat' (first
   | refine af ?_ ?_
   | refine en ?_
   | exact ah|refine ae fun hb=>?_
   | (refine aP (qf []) ?_;exact ab))
def uL:Nat→Ex→Bool
 | 0,_=>false
 | n+1,x=>decide (x.kids.length≤10) && x.kids.all (uL n)
theorem It {w:World} {S:Nat→Prop} {A:Option Addr} {l:List Ex} (h:RowsAt (oN 0) w S A l):l=[]:=by
 cases l with
 | nil=>rfl
 | cons x l =>
  obtain ⟨b,off,cs,_,_,hc,_⟩:=h.getx (i:=0) (by simp) rfl
  exact hc.elim
theorem FW:∀(n:Nat) (hn:n≤100) (d:Nat) (x:Ex) {b:Bool} (_:uL n x=b),FSpec prog 6 [x.a d,.one (.sc (.int .i64 (n:Int)))] [] [] (.b b) []
 | 0,_,d,x,b,hB=>by
  obtain rfl:b=false:=hB.symm
  refine bJ func6 ?_
  repeat' (first
   | refine af ?_ ?_
   | refine en ?_
   | exact ah|refine ae fun hb=>?_
   | (refine aP (qf []) ?_;exact ab))
 | n+1,hn,d,x,b,hB=>by
  have ih:=fun y=>@FW n (by omega) (d-1) y
  have hB:(decide (x.kids.length≤10) && x.kids.all (uL n))=b:=hB
  refine bJ func6 ?_
  refine bY (φ:=d=0→x.kids=[]) (fun c ρ a w hr h0=>?_) (fun hk0=>?_)
  ·have h:=hr.tmp 0
   obtain ⟨cs,e,hA⟩:=h
   match cs,hA with
   | [_,_,_,_,_],⟨_,_,_,_,⟨A,cap,_,_,h9⟩,_⟩=>subst h0;exact It h9
  by_cases h10:x.kids.length≤10
  case neg =>
   obtain rfl:b=false:=by rw [←hB,decide_eq_false h10];rfl
   repeat' (first
    | refine af ?_ ?_
    | refine en ?_
    | exact ah|refine ae fun hb=>?_
    | (refine aP (qf []) ?_;exact ab))
  rw [decide_eq_true h10,Bool.true_and] at hB
  cases d with
  | zero =>
   have hk0:=hk0 rfl
   obtain rfl:b=true:=by rw [←hB,hk0];rfl
   obtain ⟨k,at_,ks⟩:=x
   obtain rfl:ks=[]:=hk0
   repeat' (first
    | refine af ?_ ?_
    | refine en ?_
    | exact ah|refine ae fun hb=>?_)
   refine ao (fun _:Unit=>True) (fun _=>cy [2] [(1,.c (.sc (.int .i64 ((n+1:Nat):Int)))),(2,.c (.ptr 2 0)),(5,.i (0:Nat))] [(2,.box 34 (Ex.d 0 (.mk k at_ [])))]) (fun _=>0) () trivial (by exact ap (qf [])) ?_
   intro _ _
   repeat' (first
    | refine af ?_ ?_
    | refine en ?_
    | exact ah|(refine ae fun hb=>?_;first|(exact absurd hb (by decide))|skip)
    | (refine aP (qf []) ?_;exact ab))
  | succ d =>
   repeat' (first
    | refine af ?_ ?_
    | refine en ?_
    | exact ah|refine ae fun hb=>?_)
   refine ao (fun i=>i≤x.kids.length∧(x.kids.drop i).all (uL n)=b) (fun i=>cy [2] [(1,.c (.sc (.int .i64 ((n+1:Nat):Int)))),(2,.c (.ptr 2 0)),(5,.i i)] [(2,.box 34 (x.d (d+1)))]) (fun i=>x.kids.length-i) 0 ⟨Nat.zero_le _,hB⟩ (by exact ap (qf [])) ?_
   rintro i ⟨hi,hs⟩
   by_cases hlt:i<x.kids.length
   ·obtain ⟨y,hy⟩:∃y,x.kids[i]? = some y:=⟨_,List.getElem?_eq_getElem hlt⟩
    have ey:x.kids[i]=y:=(List.getElem?_eq_some_iff.1 hy).2
    rw [List.drop_eq_getElem_cons hlt,ey,List.all_cons] at hs
    obtain ⟨f,hf⟩:∃f,uL n y=f:=⟨_,rfl⟩
    have kY:=ih y hf
    rw [hf] at hs
    have en1:(((n+1:Nat):Int)-1)=(n:Int):=by omega
    cases f with
    | true =>
     rw [Bool.true_and] at hs
     repeat' (first
      | refine af ?_ ?_
      | refine aa 9 rfl (cB [] (kY) ?_)
      | (refine aa 10 rfl ?_;refine sx (vl rfl rfl rfl ((IntWalk.i64_in _ (by omega)).trans en1)) ?_)
      | refine en ?_
      | exact ah|refine ae fun hb=>?_)
     refine ⟨i+1,⟨hlt,hs⟩,by omega,?_⟩
     exact ap (qf [])
    | false =>
     obtain rfl:b=false:=hs.symm
     repeat' (first
      | refine af ?_ ?_
      | refine aa 9 rfl (cB [] (kY) ?_)
      | (refine aa 10 rfl ?_;refine sx (vl rfl rfl rfl ((IntWalk.i64_in _ (by omega)).trans en1)) ?_)
      | refine en ?_
      | exact ah|refine ae fun hb=>?_
      | (refine aP (qf []) ?_;exact ab))
   ·rw [List.drop_eq_nil_of_le (by omega)] at hs
    obtain rfl:b=true:=hs.symm
    repeat' (first
     | refine af ?_ ?_
     | refine en ?_
     | exact ah|refine ae fun hb=>?_
     | (refine aP (qf []) ?_;exact ab))
def Iu:Pc:=⟨⟨0,1,1⟩,10,⟨[⟨nA,⟨0,0⟩,⟨3,0⟩⟩,⟨nA,⟨3,0⟩,⟨5,0⟩⟩],[⟨1,1⟩]⟩,true,⟨.mk 0 ⟨nB,⟨5,0⟩⟩ [],0,0⟩,0,0⟩
def Ax:Opn:=⟨⟨0,1,1⟩,1,20,[⟨nA,⟨3,0⟩⟩,⟨nB,⟨0,0⟩⟩]⟩
def LZ:Opn:=⟨⟨0,1,1⟩,-1,30,[⟨nA,⟨0,0⟩⟩,⟨nB,⟨0,0⟩⟩]⟩
theorem Iv:lC Iu=[Ax,LZ]:=by kernel_rfl
theorem I5:nk Ax=true:=by kernel_rfl
theorem FX {α:Type} {E:El α} [J:Dp E] {w:World} {F F':Nat→Prop} {ρ ρ':Nat→Value} {k n:Nat} {e:TypeId} {m:List α} {cs:List D} (hb:(Box.box e cs).rep w F ρ (ρ k)) (hm:m.flatMap J.deep=cs) (hF:∀b,F b→F' b) (hF':∀g,kb (ρ k)=some g→F' g) (hn:m.length=n∧n≤maxLen) {v:Value} (hv:(D.slb k n).rep w F ρ v):(D.sl E m).rep w F' ρ' v:=by
 subst hm
 obtain ⟨g,hg,rfl⟩:=hv
 obtain ⟨g',vs,e1,h3,h4,_⟩:=hb
 rw [hg] at e1
 injection e1 with e1
 injection e1 with e1
 injection e1 with e1
 subst e1
 exact ⟨_,_,by rw [hn.1],⟨Nat.le_of_eq hn.1,hn.2⟩,vs,(eI h4).same (fun _ _=>rfl) hF,fun _=>⟨g,0,rfl,hF' g (by rw [hg];rfl),fun j u hu=>by rw [Nat.zero_add];exact h3.cellx j (by simpa using hu)⟩⟩
theorem FY:FSpec prog 20 [] [] [] (.v (Iu.a 0)) []:=by
 refine aA (fun b W=>by kernel_rfl) rfl fun w S ρ vs hS ha=>?_
 obtain rfl:vs=[]:=by
  cases vs with
  | nil=>rfl
  | cons=>exact ha.elim
 refine calls_of_wp func20 rfl ?_
 have hr0:=yu (nt:=20) (args:=[]) (vs:=[]) hS ha rfl (Nat.zero_le _)
 have kP:FSpec prog 55 [mb 0] [] [] (.v (Pr.a ⟨0,1,1⟩)) []:=by have:=pK 0;rw [show iC 0=⟨0,1,1⟩ from by decide] at this;exact this
 refine wp_mono ((?_:AW prog 20 [] _ (fun e s'=>e = .ret∧s'.t 0 = .c (.ptr 0 0)∧s'.h 0=some (.box 38 [.sc (.int .i64 0),.sc (.int .i64 1),.sc (.int .i64 1),.sc (.int .i64 10),.slb 15 2,.slb 17 1,.sc (.bool true),.sc (.int .i64 0),.sc (.string nB),.sc (.int .i64 5),.sc (.int .i64 0),.sc (.slice none 0 0),.sc (.int .i64 0),.sc (.int .i64 0),.sc (.int .i64 0),.sc (.int .i64 0)])∧s'.h 15=some (.box 112 [.sc (.string nA),.sc (.int .i64 0),.sc (.int .i64 0),.sc (.int .i64 3),.sc (.int .i64 0),.sc (.string nA),.sc (.int .i64 3),.sc (.int .i64 0),.sc (.int .i64 5),.sc (.int .i64 0)])∧s'.h 17=some (.box 80 [.sc (.int .i64 1),.sc (.int .i64 1)])) (Kt [] [])) _ _ _ w rfl rfl hr0) ?_
 ·repeat' (first
   | refine af ?_ ?_
   | refine aa 9 rfl (cB [] (kP) ?_)
   | refine en ?_
   | exact ah|refine ae fun hb=>?_)
  exact ⟨rfl,rfl,rfl,rfl,rfl⟩
 rintro e a' w' ⟨s',ρ',⟨rfl,t0,h0,h15,h17⟩,hr⟩
 obtain ⟨v,hv,hrep⟩:=ln hr (fn:=Tryz.f20) (xs:=[_]) ⟨.row (P:=prog) t0 h0 rfl,trivial⟩
 have hfr:=hr.frm
 refine ⟨hr.dfr,v,hv,v,rfl,⟨hfr.os,hfr.tape,hfr.output,hfr.size,fun b hb=>hfr.keep b hb id⟩,?_⟩
 obtain ⟨cs,rfl,hA⟩:=hrep
 have hF:∀b,Fz { w0:=w,S:=S,X:=fun _=>False,nt:=20,K:=[],ρ0:=ρ,hS:=hS,hX:=fun _ h=>h.elim } s'.h ρ' w' b→Gr S w.heap.size w' b:=fun b hb=>⟨hb.2.1,hb.1⟩
 have hG:∀k bx,s'.h k=some bx→∀g,kb (ρ' k)=some g→Gr S w.heap.size w' g:=fun k bx hk g hg=>⟨hr.ltb hk hg,(hr.inb k bx g hk hg).imp (fun h=>h.elim) id⟩
 match cs,hA with
 | [c0,c1,c2,c3,c4,c5,c6,c7,c8,c9,c10,c11,c12,c13,c14,c15],⟨k0,k1,k2,k3,k4,k5,k6,k7,k8,k9,k10,k11,k12,k13,k14,k15,_⟩ =>
  refine ⟨_,rfl,k0,k1,k2,k3,FX (E:=iI) (hr.hp 15 _ h15) rfl hF (hG 15 _ h15) ⟨rfl,by decide⟩ k4,FX (E:=iF) (hr.hp 17 _ h17) rfl hF (hG 17 _ h17) ⟨rfl,by decide⟩ k5,k6,k7,k8,k9,k10,⟨none,0,k11,by decide,RowsAt.nil _ _ _ _⟩,k12,k13,k14,k15,trivial⟩
theorem FZ:FSpec prog 7 [] [] [] (.b true) []:=by
 refine bJ func7 ?_
 have kE:=FY
 have kO:=yH 0 Iu Iv
 have kP:=MJ [] Ax (by decide) rfl
 have hR:=yY I5 []
 rw [List.append_nil] at hR
 obtain ⟨B,hB⟩:∃B,yS Ax=B:=⟨_,rfl⟩
 have hBl:B.length≤1000:=by rw [←hB];decide +kernel
 rw [List.nil_append,hB] at kP
 rw [hB] at hR
 have kT:=LY B (by omega) (FT B) hR
 have kV:=mo Ax I5
 have kS:=FV Ax
 obtain ⟨X1,hX1⟩:∃X,Ax=X:=⟨_,rfl⟩
 obtain ⟨X2,hX2⟩:∃X,LZ=X:=⟨_,rfl⟩
 have a1:X1.label=1:=by rw [←hX1];rfl
 have a2:X1.cost=20:=by rw [←hX1];rfl
 have a3:X1.lower.length=2:=by rw [←hX1];rfl
 have a4:X2.label = -1:=by rw [←hX2];rfl
 have a5:X2.cost=30:=by rw [←hX2];rfl
 have a6:X2.lower.length=2:=by rw [←hX2];rfl
 obtain ⟨A1,hA1,a7⟩:∃A1,X1.lower[(0:Int).toNat]? = some A1∧A1.am.mode=3:=by rw [←hX1];exact ⟨_,rfl,rfl⟩
 rw [hX1] at kP hR kT kV kS kO hB
 rw [hX2] at kO
 obtain ⟨L2,hL2⟩:∃L2,[X1,X2]=L2:=⟨_,rfl⟩
 have l0:L2[(0:Int).toNat]? = some X1:=by rw [←hL2];rfl
 have l1:L2[(1:Int).toNat]? = some X2:=by rw [←hL2];rfl
 have l2:L2.length=2:=by rw [←hL2];rfl
 rw [hL2] at kO
 generalize Iu=ep at kE kO
 clear hL2 hX1 hX2 hB hR
 repeat' (first
  | refine af ?_ ?_
  | (refine aa 9 rfl ?_;first
   | (refine cC [] (kE) ?_)
   | (refine cC [] (kO) ?_)
   | (refine cC [] (kP) ?_)
   | (refine cC [] (kT) ?_)
   | (refine cB [] (kV) ?_)
   | (refine cB [] (kS) ?_))
  | refine en ?_
  | exact ah|(refine ae fun hb=>?_;first|(omega)|(exact absurd rfl hb)|skip)
  | (refine aP (qf []) ?_;exact ab))
end Go.Proofs.YtdaajdflefnjfaaGreat
