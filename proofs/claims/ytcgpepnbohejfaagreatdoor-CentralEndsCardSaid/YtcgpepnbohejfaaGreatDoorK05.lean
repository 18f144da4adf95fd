/- Part 5 of 56 of the proof of both_hold (no condition). -/
import Derived.Test.YtcgpepnbohejfaaGreatDoorK04
import Derived.Orders
import Derived.Still
import Derived.Scope
import Derived.KernelRfl
set_option linter.unusedVariables false
set_option linter.unusedSimpArgs false
set_option maxRecDepth 100000
set_option maxHeartbeats 64000000
namespace Go.Proofs.YtcgpepnbohejfaaGreatDoor
open Go.RowKit
structure Mef:Type 1 where
 d:TV
 hs:List (Nat×Option Box)
 us:List Nat
def aD:List Nat→Nat→Bool
 | [],_=>false
 | k :: r,n=>k.beq n || aD r n
def ax:List (Nat×Option Box)→Nat→Bool
 | [],_=>false
 | (k,_) :: r,n=>k.beq n || ax r n
def hput:List (Nat×Option Box)→(Nat→Option Box)→Nat→Option Box
 | [],h=>h
 | (k,b) :: r,h=>fun n=>bif k.beq n then b else hput r h n
def iO:Option Nat→TV→(Nat→TV)→Nat→TV
 | none,_,t=>t
 | some k,d,t=>fun n=>bif k.beq n then d else t n
def Mst.app (s:Mst) (dst:Option Nat) (e:Mef):Mst:={ t:=iO dst e.d s.t,h:=hput e.hs s.h,f:=fun n=>s.f n && !aD e.us n }
abbrev TV.c (d:D):TV:=.v (.one d)
abbrev TV.i (n:Int):TV:=.v (.one (.sc (.int .i64 n)))
abbrev TV.b (x:Bool):TV:=.v (.one (.sc (.bool x)))
def tP:Value→TV
 | .agg cs=>.v (.ag (cs.toList.map .sc))
 | v=>.v (.one (.sc v))
def Mst.ev (s:Mst):Operand→TV
 | .tmp t=>s.t t
 | .const v=>tP v
 | .global g=>.v (.one (.sc (.pointer (some ⟨g,0,none⟩))))
 | .func f=>.v (.one (.sc (.func (.func f) #[] #[])))
theorem bD:∀{l:List (Nat×Option Box)} {h:Nat→Option Box} {n:Nat},ax l n=false→hput l h n=h n
 | [],_,_,_=>rfl
 | (k,b) :: r,h,n,e=>by
  simp only [ax,Bool.or_eq_false_iff] at e;simp only [hput,e.1,cond_false];exact bD e.2
theorem tQ:∀{l:List (Nat×Option Box)} {h h':Nat→Option Box} {n:Nat},ax l n=true→hput l h n=hput l h' n
 | [],_,_,_,e=>by simp [ax] at e
 | (k,b) :: r,h,h',n,e=>by
  simp only [hput];cases hk:k.beq n with
  | true=>rfl
  | false =>
   simp only [ax,hk,Bool.false_or] at e;simp only [cond_false];exact tQ e
theorem zT {l m:List (Nat×Option Box)} {h:Nat→Option Box} (hd:∀n,ax l n=true→ax m n=false):hput l (hput m h)=hput m (hput l h):=by
 funext n
 cases hl:ax l n with
 | true=>rw [bD (hd n hl),tQ hl]
 | false =>
  rw [bD hl];cases hm:ax m n with
  | true=>exact tQ hm
  | false=>rw [bD hm,bD hm,bD hl]
theorem zU {a b:Option Nat} {x y:TV} {t:Nat→TV} (h:∀d,a=some d→b≠some d):iO a x (iO b y t)=iO b y (iO a x t):=by
 cases a with
 | none=>rfl
 | some d =>
  cases b with
  | none=>rfl
  | some e =>
   have hne:d≠e:=fun he=>h d rfl (he▸rfl);funext n
   simp only [iO];cases h1:d.beq n with
   | false=>rfl
   | true =>
    have:e.beq n=false:=by
     cases h2:e.beq n with
     | false=>rfl
     | true=>exact absurd ((Nat.eq_of_beq_eq_true h1).trans (Nat.eq_of_beq_eq_true h2).symm) hne
    simp [this]
theorem tR {a:Option Nat} {x:TV} {t:Nat→TV} {n:Nat} (h:a≠some n):iO a x t n=t n:=by
 cases a with
 | none=>rfl
 | some d =>
  simp only [iO];cases h1:d.beq n with
  | false=>rfl
  | true=>exact absurd (by rw [Nat.eq_of_beq_eq_true h1]) h
theorem Mst.app_comm {s:Mst} {a b:Option Nat} {x y:Mef} (h:∀d,a=some d→b≠some d) (hd:∀n,ax x.hs n=true→ax y.hs n=false):(s.app a x).app b y=(s.app b y).app a x:=by
 simp only [Mst.app,Mst.mk.injEq];refine ⟨(zU h).symm,(zT hd).symm,?_⟩;funext n
 cases s.f n <;> cases aD x.us n <;> cases aD y.us n <;> rfl
section
variable {c:Ctx} {s st:Mst} {ρ:Nat→Value} {a:Act} {w:World} {P:Program}
theorem All2.scs {w:World} {F:Nat→Prop} {ρ:Nat→Value}:∀(l:List Value),All2 (D.rep w F ρ) (l.map .sc) l
 | []=>trivial
 | x :: l=>⟨rfl,All2.scs l⟩
theorem Rp.ev (h:Rp c s ρ a w) (x:Operand):(s.ev x).rep w (Fz c s.h ρ w) ρ (a.eval x):=by
 cases x with
 | tmp t=>exact h.tmp t
 | const v =>
  cases v with
  | agg cs=>exact ⟨cs.toList,by simp [Act.eval],All2.scs _⟩
  | _=>exact rfl
 | global g=>exact rfl
 | func f=>exact rfl
theorem Rp.drew (h:Rp c s ρ a w):Rp c s ρ a { w with drawn:=w.drawn+1 } where
 dfr:=h.dfr
 siz:=h.siz
 frm:=⟨h.frm.os,h.frm.tape,h.frm.output,h.frm.size,h.frm.keep⟩
 tmp:=fun t=>(h.tmp t).mono (fun b hb=>⟨hb,rfl⟩) fun _ _=>rfl
 hp:=fun k b hk=>(h.hp k b hk).mono (fun _ _=>rfl) (fun b hb=>⟨hb,rfl⟩) fun _ _=>rfl
 inb:=h.inb
 dis:=h.dis
 ent:=h.ent
 wf:=h.wf
def LOp (P:Program) (o:Oper) (s:Mst) (R:List Nat) (e:Mef):Prop :=
 ∀(c:Ctx) (st:Mst) (ρ:Nat→Value) (a:Act) (w:World),Rp c st ρ a w→(∀x,x∈o.op.operands→st.ev x=s.ev x)→(∀k,aD R k=true→st.h k=s.h k)→(∀k,aD e.us k=true→st.f k=true)→(∀d,o.dst=some d→d<c.nt)→
  o.wp P a w (fun a' w'=>∃ρ',Rp c (st.app o.dst e) ρ' a' w') fun _ _ _=>False
theorem Oper.wp_post {o:Oper} {a:Act} {w:World} {K K':Act→World→Prop} {Q:Exit→Act→World→Prop} (h:o.wp P a w K fun _ _ _=>False) (hK:∀a w,K a w→K' a w):o.wp P a w K' Q:=by
 unfold Oper.wp at *
 generalize (execOp a.eval o).run P w=r at *
 cases r with
 | ok n w' =>
  cases n <;> simp only [Oper.upon] at h ⊢ <;>
   first|exact hK _ _ h|exact Calls.mono h (fun e w'' he=>by cases e <;> first|exact hK _ _ he|exact he.elim|(obtain ⟨_,_,hf⟩:=he;exact hf.elim))|exact Rows.mono h (fun _ _ he=>hK _ _ he)
 | halt x w'=>cases x <;> simp only [Oper.upon] at h
def Mst.gd (s:Mst) (ops:Array Oper) (o:Oper):Option Bool :=
 match o.guard with
 | none=>some true
 | some (j,want) =>
  match ((ops[j]?).bind (·.dst)).map s.t with
  | some (.v (.one (.sc (.bool b))))=>some (b == want)
  | some (.v (.one (.sc (.tuple _))))=>some false
  | _=>none
theorem Rp.gd {ops:Array Oper} {o:Oper} {g:Bool} (h:Rp c s ρ a w) (hg:s.gd ops o=some g):Region.wanted o (yielded ops a.tmps)=g:=by
 unfold Mst.gd at hg;unfold Region.wanted;split at hg
 ·rename_i h1
  rw [h1];exact Option.some.inj hg
 ·rename_i j want h1
  rw [h1];dsimp only;unfold yielded;cases hd:(ops[j]?).bind (·.dst) with
  | none=>rw [hd] at hg;simp at hg
  | some t =>
   rw [hd] at hg;simp only [Option.map_some,Option.bind_some] at hg ⊢;have ht:=h.tmp t;generalize s.t t=d at *
   split at hg
   ·rename_i b hb
    injection hb with hb;subst hb;have h2:a.tmps.getD t undef = .bool b:=ht;have h3:a.tmps[t]? = some (.bool b):=by
     rw [Array.getD_eq_getD_getElem?] at h2;cases h4:a.tmps[t]? with
     | none=>rw [h4] at h2;simp [undef] at h2
     | some v=>rw [h4] at h2;simp at h2;rw [h2]
    rw [h3];have hg:=Option.some.inj hg;rw [←hg];cases b <;> cases want <;> rfl
   ·rename_i vs hb
    injection hb with hb;subst hb;have h2:a.tmps.getD t undef = .tuple vs:=ht;rw [Array.getD_eq_getD_getElem?] at h2;have hg:=Option.some.inj hg;rw [←hg];cases h4:a.tmps[t]? with
    | none=>rfl
    | some v=>rw [h4] at h2;simp at h2;subst h2;rfl
   ·cases hg
def DW (P:Program) (ops:Array Oper):List Oper→List (List Nat×List Nat)→Mst→(Mst→Prop)→Prop
 | [],_,s,K=>K s
 | o :: r,fps,s,K=>∃R W fps',fps=(R,W) :: fps'∧∃g,s.gd ops o=some g∧
   (g=true→∃e,(LOp P o s R e∧(∀k,ax e.hs k=true→aD W k=true)∧∀k,aD e.us k=true→s.f k=true)∧DW P ops r fps' (s.app o.dst e) K)∧
   (g=false→DW P ops r fps' (s.app o.dst ⟨.c (.sc undef),[],[]⟩) K)
def f9 (nt:Nat) (l:List Oper):Bool:=l.all fun o=>match o.dst with|some d=>Nat.blt d nt|none=>true
theorem sA {nt:Nat} {l:List Oper} (h:f9 nt l=true) {o:Oper} (ho:o∈l) {d:Nat} (hd:o.dst=some d):d<nt:=by
 have:=List.all_eq_true.1 h o ho;rw [hd] at this;simpa using this
theorem Rp.put_any (h:Rp c s ρ a w) (dst:Option Nat):Rp c (s.app dst ⟨.c (.sc undef),[],[]⟩) ρ (a.put dst undef) w where
 dfr:=by cases dst <;> exact h.dfr
 siz:=by cases dst <;> simp [Act.put,h.siz]
 frm:=h.frm
 tmp:=fun t=>by
  cases dst with
  | none=>exact h.tmp t
  | some d =>
   simp only [Mst.app,iO];by_cases e:d=t
   ·subst e;simp only [Nat.beq_refl,cond_true];show (a.tmps.setIfInBounds d undef).getD d undef=undef;rw [Array.getD_eq_getD_getElem?,Array.getElem?_setIfInBounds];simp only [if_true];split <;> rfl
   ·have:d.beq t=false:=by
     cases h2:d.beq t with
     | false=>rfl
     | true=>exact absurd (Nat.eq_of_beq_eq_true h2) e
    simp only [this,cond_false,Act.put,Array.getD_eq_getD_getElem?,Array.getElem?_setIfInBounds_ne e];have:=h.tmp t
    rwa [Array.getD_eq_getD_getElem?] at this
 hp:=h.hp
 inb:=h.inb
 dis:=h.dis
 ent:=fun k hk=>⟨(h.ent k hk).1,by simp [Mst.app,aD,(h.ent k hk).2]⟩
 wf:=⟨fun k hk=>h.wf.h k (by simpa [Mst.app,aD] using hk),fun k t hk=>by
   have hk':s.f k=true:=by simpa [Mst.app,aD] using hk
   cases dst with
   | none=>exact h.wf.t k t hk'
   | some d =>
    simp only [Mst.app,iO];cases d.beq t with
    | true=>rfl
    | false=>exact h.wf.t k t hk',fun k k' b hk hb=>h.wf.b k k' b (by simpa [Mst.app,aD] using hk) hb⟩
def AW (P:Program) (nt:Nat) (K:List Nat) (code:Code) (Q:Exit→Mst→Prop) (s:Mst):Prop :=
 ∀(c:Ctx) (ρ:Nat→Value) (a:Act) (w:World),c.nt=nt→c.K=K→Rp c s ρ a w→code.wp P (fun e a' w'=>∃s' ρ',Q e s'∧Rp c s' ρ' a' w') a w
theorem il {ops:Array Oper} {Q:Exit→Act→World→Prop} (c:Ctx):∀(l:List Oper) (fps:List (List Nat×List Nat)) (s:Mst) (K:Mst→Prop),f9 c.nt l=true→DW P ops l fps s K→(∀s' ρ' a' w',K s'→Rp c s' ρ' a' w'→Q .normal a' w')→
  ∀(ρ:Nat→Value) (a:Act) (w:World),Rp c s ρ a w→wpList P ops Q l a w
 | [],_,s,K,_,h,hQ,ρ,a,w,hr=>hQ s ρ a w h hr
 | o :: l,fps,s,K,hnt,h,hQ,ρ,a,w,hr=>by
  obtain ⟨R,W,fps',_,g,hg,h1,h2⟩:=h;have hnt':f9 c.nt l=true:=by simp [f9] at hnt ⊢;exact hnt.2
  refine wpList_step fun K' hK'=>?_;rw [hr.gd hg];cases g with
  | true =>
   obtain ⟨e,⟨he,hkw,hu⟩,hn⟩:=h1 rfl;rw [if_pos rfl];have h3:=he c s ρ a w hr (fun _ _=>rfl) (fun _ _=>rfl) hu (fun d hd=>sA hnt (by simp) hd);refine Oper.wp_post h3 ?_;rintro a' w' ⟨ρ',hr'⟩;exact hK' _ _ (il c l fps' _ K hnt' hn hQ ρ' a' w' hr')
  | false =>
   rw [if_neg (by simp)];exact hK' _ _ (il c l fps' _ K hnt' (h2 rfl) hQ ρ _ w (hr.put_any o.dst))
theorem zV {nt id:Nat} {Ks:List Nat} {l:List Oper} {fps:List (List Nat×List Nat)} {Q:Exit→Mst→Prop} (hnt:f9 nt l=true) (h:DW P l.toArray l fps s fun s'=>Q .normal s'):AW P nt Ks (.region id l.toArray false) Q s:=by
 intro c ρ a w hc _ hr;subst hc;exact wp_region_lit (il c l fps s _ hnt h (fun s' ρ' a' w' hq hr'=>⟨s',ρ',hq,hr'⟩) ρ a w hr)
end
section
variable {P:Program} {ops:Array Oper}
def DQ (ops:Array Oper):Nat→Nat→Nat→Bool
 | 0,_,_=>false
 | n+1,i,j=>match ops[j]? with
  | none=>false
  | some o=>o.after.any fun e=>Region.binds .any e && (e.on == i || DQ ops n i e.on)
def Hc (x y:List Nat×List Nat):Bool:=x.2.all (fun k=>!aD y.1 k && !aD y.2 k) && y.2.all fun k=>!aD x.1 k
def km (fps:List (List Nat×List Nat)) (i:Nat):List Nat×List Nat:=fps.getD i ([],[])
def tS (ops:Array Oper) (fps:List (List Nat×List Nat)) (listed:Array Bool) (k:Nat):Bool :=
 match ops[k]? with
 | none=>false
 | some o=>(List.range ops.size).all fun j=>j == k || listed.getD j true || DQ ops 6 k j || (match ops[j]? with|none=>true|some o'=>o.apart ops o' && Hc (km fps k) (km fps j))
def ls (ops:Array Oper) (fps:List (List Nat×List Nat)):Nat→Nat→Array Bool→Bool
 | 0,_,listed=>(Region.ready .any ops listed).isEmpty
 | fuel+1,k,listed=>(Region.ready .any ops listed).contains k && tS ops fps listed k && ls ops fps fuel (k+1) (listed.setIfInBounds k true)
def DC (ops:Array Oper) (listed:Array Bool):Prop:=∀(k:Nat) (o:Oper),ops[k]? = some o→listed.getD k false=true→∀e∈o.after,Region.binds .any e=true→listed.getD e.on false=true
theorem yy {l:Array Bool} {i:Nat} (h:l.getD i true=false):l.getD i false=false:=by
 rw [Array.getD_eq_getD_getElem?] at *
 cases h1:l[i]? with
 | none=>rfl
 | some b=>rw [h1] at h;exact h
theorem oM {listed:Array Bool} (hd:DC ops listed) {i:Nat} (hi:listed.getD i true=false):∀(n k:Nat),listed.getD k false=true→DQ ops n i k=false
 | 0,_,_=>rfl
 | n+1,k,hk=>by
  unfold DQ;cases ho:ops[k]? with
  | none=>rfl
  | some o =>
   dsimp only;rw [Array.any_eq_false'];intro e he;cases hb:Region.binds .any e with
   | false=>simp
   | true =>
    have h1:=hd k o ho hk e he hb;have h2:(e.on == i)=false:=by
     rw [beq_eq_false_iff_ne];intro heq;rw [heq,yy hi] at h1;cases h1
    simp [h2,oM hd hi n e.on h1]
theorem zW {listed:Array Bool} (hd:DC ops listed) {i j:Nat} (hi:listed.getD i true=false) (hj:j∈Region.ready .any ops listed) (n:Nat):DQ ops n i j=false:=by
 cases n with
 | zero=>rfl
 | succ n =>
  obtain ⟨_,o,ho,hall⟩:=mem_ready.1 hj;unfold DQ;rw [ho];dsimp only;rw [Array.any_eq_false'];intro e he;cases hb:Region.binds .any e with
  | false=>simp
  | true =>
   have h1:=hall e he hb;have h2:(e.on == i)=false:=by
    rw [beq_eq_false_iff_ne];intro heq;rw [heq,yy hi] at h1;cases h1
   simp [h2,oM hd hi n e.on h1]
theorem DC.set {listed:Array Bool} (hd:DC ops listed) {i:Nat} (hi:i∈Region.ready .any ops listed):DC ops (listed.setIfInBounds i true):=by
 have up:∀k,listed.getD k false=true→(listed.setIfInBounds i true).getD k false=true:=fun k hk=>by
  rw [Array.getD_eq_getD_getElem?] at *
  rw [Array.getElem?_setIfInBounds];split
  ·rename_i h1
   subst h1;split
   ·rfl
   ·rename_i h2
    rw [Array.getElem?_eq_none (by omega)] at hk;exact hk
  ·exact hk
 intro k o ho hk e he hb;by_cases hki:i=k
 ·subst hki;obtain ⟨_,o',ho',hall⟩:=mem_ready.1 hi;rw [ho] at ho';injection ho' with ho';subst ho';exact up _ (hall e he hb)
 ·refine up _ (hd k o ho ?_ e he hb);rw [Array.getD_eq_getD_getElem?] at *
  rwa [Array.getElem?_setIfInBounds_ne hki] at hk
def Acts (P:Program) (ops:Array Oper) (o:Oper) (s:Mst) (R W:List Nat) (e:Mef):Prop :=
 (s.gd ops o=some true∧LOp P o s R e∧(∀k,ax e.hs k=true→aD W k=true)∧∀k,aD e.us k=true→s.f k=true)∨(s.gd ops o=some false∧e=⟨.c (.sc undef),[],[]⟩)
def Hl (P:Program) (ops:Array Oper) (fps:List (List Nat×List Nat)) (i:Nat) (K:Mst→Prop) (s:Mst):Prop :=
 match ops[i]? with
 | none=>K s
 | some o=>∃e,Acts P ops o s (km fps i).1 (km fps i).2 e∧K (s.app o.dst e)
theorem LOp.congr {o:Oper} {s s':Mst} {R:List Nat} {e:Mef} (h:LOp P o s R e) (he:∀x,x∈o.op.operands→s'.ev x=s.ev x) (hR:∀k,aD R k=true→s'.h k=s.h k):LOp P o s' R e :=
 fun c st ρ a w hr h1 h2 h3 h4=>h c st ρ a w hr (fun x hx=>(h1 x hx).trans (he x hx)) (fun k hk=>(h2 k hk).trans (hR k hk)) h3 h4
theorem vn {o:Oper} {s s':Mst} (h:∀t,t∈o.looksAt ops→s'.t t=s.t t):s'.gd ops o=s.gd ops o:=by
 unfold Mst.gd;cases hg:o.guard with
 | none=>rfl
 | some g =>
  obtain ⟨j,want⟩:=g;dsimp only;cases hd:(ops[j]?).bind (·.dst) with
  | none=>rfl
  | some t=>simp only [Option.map_some];rw [h t (by simp [Oper.looksAt,hg,hd])]
theorem BC {o:Oper} {s s':Mst} (h:∀t,t∈o.looksAt ops→s'.t t=s.t t) {x:Operand} (hx:x∈o.op.operands):s'.ev x=s.ev x:=by
 cases x with
 | tmp t=>exact h t (by simp [Oper.looksAt];exact .inl ⟨_,hx,rfl⟩)
 | _=>rfl
theorem Acts.congr {o:Oper} {s s':Mst} {R W:List Nat} {e:Mef} (h:Acts P ops o s R W e) (ht:∀t,t∈o.looksAt ops→s'.t t=s.t t) (hR:∀k,aD R k=true→s'.h k=s.h k) (hf:∀k,aD e.us k=true→s.f k=true→s'.f k=true):Acts P ops o s' R W e:=by
 rcases h with ⟨h1,h2,h3,h4⟩|⟨h1,h2⟩
 ·exact .inl ⟨(vn ht).trans h1,h2.congr (fun x hx=>BC ht hx) hR,h3,fun k hk=>hf k hk (h4 k hk)⟩
 ·exact .inr ⟨(vn ht).trans h1,h2⟩
theorem Acts.keys {o:Oper} {s:Mst} {R W:List Nat} {e:Mef} (h:Acts P ops o s R W e) {k:Nat} (hk:ax e.hs k=true):aD W k=true:=by
 rcases h with ⟨_,_,h3,_⟩|⟨_,rfl⟩
 ·exact h3 k hk
 ·simp [ax] at hk
theorem Acts.fr {o:Oper} {s:Mst} {R W:List Nat} {e:Mef} (h:Acts P ops o s R W e) {k:Nat} (hk:aD e.us k=true):s.f k=true:=by
 rcases h with ⟨_,_,_,h4⟩|⟨_,rfl⟩
 ·exact h4 k hk
 ·simp [aD] at hk
theorem im {l:List Nat} {p:Nat→Bool} (h:l.all p=true):∀k,aD l k=true→p k=true:=by
 induction l with
 | nil=>intro k hk;simp [aD] at hk
 | cons x l ih =>
  intro k hk;simp only [List.all_cons,Bool.and_eq_true] at h;simp only [aD,Bool.or_eq_true] at hk;rcases hk with hk|hk
  ·rw [←Nat.eq_of_beq_eq_true hk];exact h.1
  ·exact ih h.2 k hk
theorem BD {x y:List Nat×List Nat} (h:Hc x y=true):(∀k,aD x.2 k=true→aD y.1 k=false∧aD y.2 k=false)∧∀k,aD y.2 k=true→aD x.1 k=false:=by
 simp only [Hc,Bool.and_eq_true] at h;refine ⟨fun k hk=>?_,fun k hk=>?_⟩
 ·have:=im h.1 k hk;simpa using this
 ·have:=im h.2 k hk;simpa using this
theorem Acts.swap {oi oj:Oper} {s:Mst} {fi fj:List Nat×List Nat} {ei ej:Mef} (hap:oi.apart ops oj=true) (hnc:Hc fi fj=true) (hi:Acts P ops oi s fi.1 fi.2 ei) (hj:Acts P ops oj (s.app oi.dst ei) fj.1 fj.2 ej) :
  Acts P ops oj s fj.1 fj.2 ej∧Acts P ops oi (s.app oj.dst ej) fi.1 fi.2 ei∧(s.app oj.dst ej).app oi.dst ei=(s.app oi.dst ei).app oj.dst ej:=by
 obtain ⟨h1,h2,h3⟩:=Oper.apart_spec hap;obtain ⟨n1,n2⟩:=BD hnc;have ki:∀k,aD fj.1 k=true→ax ei.hs k=false:=fun k hk=>by
  cases hh:ax ei.hs k with
  | false=>rfl
  | true=>rw [(n1 k (hi.keys hh)).1] at hk;cases hk
 have kj:∀k,aD fi.1 k=true→ax ej.hs k=false:=fun k hk=>by
  cases hh:ax ej.hs k with
  | false=>rfl
  | true=>rw [n2 k (hj.keys hh)] at hk;cases hk
 have kk:∀k,ax ei.hs k=true→ax ej.hs k=false:=fun k hk=>by
  cases hh:ax ej.hs k with
  | false=>rfl
  | true=>have:=(n1 k (hi.keys hk)).2;rw [hj.keys hh] at this;cases this
 refine ⟨hj.congr (fun t ht=>?_) (fun k hk=>?_) fun k _ hf=>?_,hi.congr (fun t ht=>?_) (fun k hk=>?_) fun k hk hf=>?_,(Mst.app_comm h2 kk).symm⟩
 ·exact (tR (fun e=>h1 t e ht)).symm
 ·exact (bD (ki k hk)).symm
 ·simp only [Mst.app,Bool.and_eq_true] at hf;exact hf.1
 ·exact tR (fun e=>h3 t e ht)
 ·exact bD (kj k hk)
 ·simp only [Mst.app,hf,Bool.true_and];cases hh:aD ej.us k with
  | false=>rfl
  | true =>
   have:=hj.fr hh;simp only [Mst.app,hk,Bool.not_true,Bool.and_false] at this;cases this
def oN (P:Program) (ops:Array Oper) (fps:List (List Nat×List Nat)) (K:Mst→Prop):Nat→Array Bool→Mst→Prop
 | 0,listed,s=>Region.ready .any ops listed=[]∧K s
 | fuel+1,listed,s=>(Region.ready .any ops listed=[]→K s)∧∀i∈Region.ready .any ops listed,Hl P ops fps i (oN P ops fps K fuel (listed.setIfInBounds i true)) s
theorem tT {fps:List (List Nat×List Nat)} {K:Mst→Prop} {i:Nat} {oi:Oper} {ei:Mef} (hi:ops[i]? = some oi) :
  ∀(fuel:Nat) (listed:Array Bool) (s:Mst),DC ops listed→
   (∀j oj,ops[j]? = some oj→j≠i→listed.getD j true=false→DQ ops 6 i j=false→oi.apart ops oj=true∧Hc (km fps i) (km fps j)=true)→
   i∈Region.ready .any ops listed→Acts P ops oi s (km fps i).1 (km fps i).2 ei→
   oN P ops fps K fuel (listed.setIfInBounds i true) (s.app oi.dst ei)→oN P ops fps K (fuel+1) listed s:=by
 intro fuel;induction fuel with
 | zero =>
  intro listed s hdc _ hr hy H;refine ⟨fun h=>(by rw [h] at hr;cases hr),fun j hj=>?_⟩;by_cases hji:j=i
  ·subst hji;unfold Hl;rw [hi];exact ⟨ei,hy,H⟩
  ·have:=ready_mono hj hji;rw [H.1] at this;cases this
 | succ fuel ih =>
  intro listed s hdc hfree hr hy H;refine ⟨fun h=>(by rw [h] at hr;cases hr),fun j hj=>?_⟩;by_cases hji:j=i
  ·subst hji;unfold Hl;rw [hi];exact ⟨ei,hy,H⟩
  ·have h1:=H.2 j (ready_mono hj hji);obtain ⟨hjun,oj,hoj,hall⟩:=mem_ready.1 hj;obtain ⟨hap,hnc⟩:=hfree j oj hoj hji hjun (zW hdc (mem_ready.1 hr).1 hj 6);unfold Hl at h1 ⊢;rw [hoj] at h1 ⊢;obtain ⟨ej,hej,hK⟩:=h1;obtain ⟨a1,a2,a3⟩:=hy.swap hap hnc hej;refine ⟨ej,a1,ih (listed.setIfInBounds j true) _ (hdc.set hj) ?_ (ready_mono hr (Ne.symm hji)) a2 ?_⟩
   ·intro k ok hk hki hun hno;refine hfree k ok hk hki ?_ hno;by_cases hjk:j=k
    ·subst hjk;exact hjun
    ·rw [getD_set_ne true hjk] at hun;exact hun
   ·rw [Array.setIfInBounds_comm _ _ hji,a3];exact hK
theorem oO {fps:List (List Nat×List Nat)} {K:Mst→Prop}:∀(l:List Oper) (k:Nat) (listed:Array Bool) (s:Mst) (gps:List (List Nat×List Nat)),(∀j,l[j]? = ops[k+j]?)→(∀j,j<l.length→gps.getD j ([],[])=km fps (k+j))→DC ops listed→
  ls ops fps l.length k listed=true→DW P ops l gps s K→oN P ops fps K l.length listed s
 | [],_,_,_,_,_,_,_,hB,h=>⟨by simpa [ls] using hB,h⟩
 | o :: l,k,listed,s,gps,hl,hg,hdc,hB,h=>by
  have h0:ops[k]? = some o:=by simpa using (hl 0).symm
  simp only [List.length_cons,ls,Bool.and_eq_true] at hB;obtain ⟨⟨hr,hf⟩,hB'⟩:=hB;have hr':k∈Region.ready .any ops listed:=by simpa using hr
  obtain ⟨R,W,gps',rfl,g,hgd,ht,hff⟩:=h;have hfp:km fps k=(R,W):=by have:=hg 0 (by simp);simpa using this.symm
  have step:∃e,Acts P ops o s (km fps k).1 (km fps k).2 e∧DW P ops l gps' (s.app o.dst e) K:=by
   rw [hfp];cases g with
   | true=>obtain ⟨e,⟨h1,h2,h3⟩,h4⟩:=ht rfl;exact ⟨e,.inl ⟨hgd,h1,h2,h3⟩,h4⟩
   | false=>exact ⟨_,.inr ⟨hgd,rfl⟩,hff rfl⟩
  obtain ⟨e,hy,hK⟩:=step;refine tT h0 l.length listed s hdc ?_ hr' hy ?_
  ·intro j oj hj hji hun hno;unfold tS at hf;rw [h0] at hf;dsimp only at hf;have hlt:j<ops.size:=(Array.getElem?_eq_some_iff.1 hj).1;have h5:=List.all_eq_true.1 hf j (by simpa using hlt);rw [hj] at h5;simp only [hun,hno,Bool.or_false,Bool.or_eq_true,Bool.and_eq_true,beq_iff_eq] at h5;rcases h5 with h5|h5
   ·exact absurd h5 hji
   ·exact h5
  ·exact oO l (k+1) _ _ gps' (fun j=>by have:=hl (j+1);simpa [Nat.add_assoc,Nat.add_comm 1 j] using this) (fun j hj=>by have:=hg (j+1) (by simpa using hj);simpa [Nat.add_assoc,Nat.add_comm 1 j] using this) (hdc.set hr') hB' hK
theorem io {fps:List (List Nat×List Nat)} {K:Mst→Prop} {Q:Exit→Act→World→Prop} (c:Ctx) (hnt:f9 c.nt ops.toList=true) (hQ:∀s' ρ' a' w',K s'→Rp c s' ρ' a' w'→Q .normal a' w') :
  ∀(fuel:Nat) (listed:Array Bool) (s:Mst) (ρ:Nat→Value) (a:Act) (w:World),Rp c s ρ a w→oN P ops fps K fuel listed s→wpAny P .any ops Q fuel listed a w
 | 0,_,s,ρ,a,w,hr,h=>⟨h.1,hQ _ _ _ _ h.2 hr⟩
 | fuel+1,listed,s,ρ,a,w,hr,h=>by
  refine ⟨fun h0=>hQ _ _ _ _ (h.1 h0) hr,fun i hi=>?_⟩;have h1:=h.2 i hi;unfold Hl at h1;unfold wpOp;split
  ·rename_i ho
   rw [ho] at h1;exact io c hnt hQ fuel _ s ρ a w hr h1
  ·rename_i o ho
   rw [ho] at h1;obtain ⟨e,he,hK⟩:=h1;have hmem:o∈ops.toList:=by
    have:=(Array.getElem?_eq_some_iff.1 ho).2;rw [←this];simp
   rcases he with ⟨hg,hl,hk,hu⟩|⟨hg,rfl⟩
   ·rw [hr.gd hg,if_pos rfl];refine .inl (Oper.wp_post (hl c s ρ a w hr (fun _ _=>rfl) (fun _ _=>rfl) hu fun d hd=>sA hnt hmem hd) ?_);rintro a' w' ⟨ρ',hr'⟩;exact io c hnt hQ fuel _ _ ρ' a' w' hr' hK
   ·rw [hr.gd hg,if_neg (by simp)];exact io c hnt hQ fuel _ _ ρ _ w (hr.put_any o.dst) hK
theorem oP {nt id:Nat} {Ks:List Nat} {l:List Oper} {fps:List (List Nat×List Nat)} {Q:Exit→Mst→Prop} {s:Mst} (hm:P.follows .mixedOrders=true) (hnt:f9 nt l=true) (h:DW P l.toArray l fps s fun s'=>Q .normal s') (hB:ls l.toArray fps l.length 0 (Array.replicate l.length false)=true):AW P nt Ks (.region id l.toArray true) Q s:=by
 intro c ρ a w hc _ hr;subst hc;refine wp_region_any hm ?_;have h1:=oO (P:=P) (ops:=l.toArray) (fps:=fps) l 0 (Array.replicate l.length false) s fps (by simp) (fun j _=>by simp [km]) (fun k o _ hk=>by
  exfalso;rw [Array.getD_eq_getD_getElem?,Array.getElem?_replicate] at hk;split at hk <;> simp at hk) hB h
 exact io c (by simpa using hnt) (fun s' ρ' a' w' hq hr'=>⟨s',ρ',hq,hr'⟩) _ _ s ρ a _ hr.drew (by simpa using h1)
end
class TI (P:Program) (t:TypeId) (row:outParam Bool) (n:outParam Nat):Prop where
 u:∃d,P.underlying t=some d∧(match d with | .struct _ | .array _ _=>true|_=>false)=row
 s:(P.info? t).map (·.size)=some n
class FO (P:Program) (t:TypeId) (f:Nat) (off:outParam Nat) (ft:outParam TypeId):Prop where
 u:∃fs x i,P.underlying t=some (.struct fs)∧fs[f]? = some x∧x.offset=off∧x.type=ft∧P.info? ft=some i∧i.size≠0
class SE (P:Program) (t:TypeId) (e:outParam TypeId):Prop where
 u:P.underlying t=some (.slice e)
class TZ (P:Program) (t:TypeId) (zs:outParam (List Value)):Prop where
 z:∃i v,P.info? t=some i∧i.zero=some v∧v.cells=zs.toArray
 o:∀u∈zs,u.oneCell'=true
 n:(P.info? t).map (·.size)=some zs.length
class Dp {α:Type} (E:El α) where
 deep:α→List D
 get:∀{w:World} {F:Nat→Prop} {ρ:Nat→Value} {x:α} {cs:List Value},E.rep w F x cs→All2 (D.rep w F ρ) (deep x) cs
 put:∀{w:World} {F:Nat→Prop} {ρ:Nat→Value} {x:α} {cs:List Value},All2 (D.rep w F ρ) (deep x) cs→E.rep w F x cs
 nok:∀x k,(deep x).any (D.has k)=false
theorem eU (b off j:Nat):(Addr.mk b off none).add j=⟨b,off+j,none⟩:=eC b off j
section
variable {P:Program} {o:Oper} {s:Mst} {R:List Nat} {d:TV}
theorem Oper.wp_value {a:Act} {w w':World} {v:Value} {K:Act→World→Prop} {Q:Exit→Act→World→Prop} (h:(execOp a.eval o).run P w = .ok (.value v) w') (hK:K (a.put o.dst v) w'):o.wp P a w K Q:=by
 unfold Oper.wp;rw [h];exact hK
theorem Oper.wp_skip {a:Act} {w w':World} {K:Act→World→Prop} {Q:Exit→Act→World→Prop} (h:(execOp a.eval o).run P w = .ok .skip w') (hK:K (a.put o.dst undef) w'):o.wp P a w K Q:=by
 unfold Oper.wp;rw [h];exact hK
theorem DS {c:Ctx} {a:Act} {dst:Option Nat} {v:Value} (hs:a.tmps.size=c.nt) (hd:∀d,dst=some d→d<c.nt) (t:Nat) :
  (a.put dst v).tmps.getD t undef=if dst=some t then v else a.tmps.getD t undef:=by
 cases dst with
 | none=>simp [Act.put]
 | some d =>
  by_cases e:d=t
  ·subst e;have:d<a.tmps.size:=by rw [hs];exact hd d rfl
   simp [Act.put,Array.getD_eq_getD_getElem?,this]
  ·have h1:¬(some d=some t):=fun h=>e (by injection h);rw [if_neg h1];simp [Act.put,Array.getD_eq_getD_getElem?,Array.getElem?_setIfInBounds_ne e]
theorem BE {a:Act} {dst:Option Nat} {v:Value}:(a.put dst v).tmps.size=a.tmps.size:=by cases dst <;> simp [Act.put]
theorem xl {a:Act} {dst:Option Nat} {v:Value}:(a.put dst v).defers=a.defers:=by cases dst <;> rfl
theorem yz (dst:Option Nat) (d:TV) (t:Nat→TV) (n:Nat):iO dst d t n=if dst=some n then d else t n:=by
 by_cases h:dst=some n
 ·subst h;simp [iO]
 ·rw [if_neg h,tR h]
theorem tU {l:List (Nat×Option Box)} {h:Nat→Option Box} {k:Nat} (h1:h k=none) (h2:ax l k=false):hput l h k=none:=by rw [bD h2,h1]
theorem Rp.app {c:Ctx} {st:Mst} {ρ ρ':Nat→Value} {a:Act} {w w':World} {dst:Option Nat} {e:Mef} {v:Value} (hr:Rp c st ρ a w) (hdst:∀d,dst=some d→d<c.nt)
  (hu:∀k,aD e.us k=true→st.f k=true∧ax e.hs k=true)
  (hpl:∀k,aD e.us k=false→ρ' k=ρ k)
  (hex:∀k,ax e.hs k=true→aD e.us k=true∨st.f k=false)
  (hfw:Frx w w' fun b=>∃k bx,ax e.hs k=true∧st.h k=some bx∧kb (ρ k)=some b)
  (hnb:∀k bx g,ax e.hs k=true→hput e.hs st.h k=some bx→kb (ρ' k)=some g→g<w'.heap.size∧(w.heap.size≤g∨∃k0 b0,ax e.hs k0=true∧st.h k0=some b0∧kb (ρ k0)=some g))
  (hds:∀k k' b b' g,ax e.hs k=true→ax e.hs k'=true→hput e.hs st.h k=some b→hput e.hs st.h k'=some b'→kb (ρ' k)=some g→kb (ρ' k')=some g→k=k')
  (hkd:∀k,e.d.has k=true→aD e.us k=true∨st.f k=false)
  (hkb:∀k k' bx,ax e.hs k'=true→hput e.hs st.h k'=some bx→bx.has k=true→aD e.us k=true∨st.f k=false)
  (hnew:∀k bx,ax e.hs k=true→hput e.hs st.h k=some bx→bx.rep w' (Fz c (hput e.hs st.h) ρ' w') ρ' (ρ' k))
  (hv:e.d.rep w' (Fz c (hput e.hs st.h) ρ' w') ρ' v):Rp c (st.app dst e) ρ' (a.put dst v) w':=by
 have hst:Stp c st (st.app dst e) ρ ρ' w w' fun k=>ax e.hs k=true:=by
  refine ⟨fun k hk=>bD (by simpa using hk),fun k hk=>hpl k ?_,fun k hk=>?_,hfw,hnb,hds⟩
  ·cases h:aD e.us k with
   | false=>rfl
   | true=>rw [(hu k h).1] at hk;cases hk
  ·simp only [Mst.app,Bool.and_eq_true] at hk;exact hk.1
 have ff:∀k,(st.app dst e).f k=true→st.f k=true∧aD e.us k=false:=fun k hk=>by simpa [Mst.app] using hk
 refine hr.step hst ?_ ?_ ⟨fun k hk=>?_,fun k t hk=>?_,fun k k' b hk hb=>?_⟩ (fun k hk=>?_) hnew fun t=>?_
 ·rw [xl];exact hr.dfr
 ·rw [BE];exact hr.siz
 ·obtain ⟨h1,h2⟩:=ff k hk;refine tU (hr.wf.h k h1) ?_;cases h:ax e.hs k with
  | false=>rfl
  | true=>rcases hex k h with h3|h3 <;> simp_all
 ·obtain ⟨h1,h2⟩:=ff k hk;show (iO dst e.d st.t t).has k=false;rw [yz];split
  ·cases h:e.d.has k with
   | false=>rfl
   | true=>rcases hkd k h with h3|h3 <;> simp_all
  ·exact hr.wf.t k t h1
 ·obtain ⟨h1,h2⟩:=ff k hk;have hb:hput e.hs st.h k'=some b:=hb;cases h:ax e.hs k' with
  | false=>rw [bD h] at hb;exact hr.wf.b k k' b h1 hb
  | true =>
   cases h4:b.has k with
   | false=>rfl
   | true=>rcases hkb k k' b h hb h4 with h3|h3 <;> simp_all
 ·simp [Mst.app,(hr.ent k hk).2]
 ·show (iO dst e.d st.t t).rep _ _ _ _;rw [yz,DS hr.siz hdst];by_cases h:dst=some t
  ·rw [if_pos h,if_pos h];exact hv
  ·rw [if_neg h,if_neg h];exact hr.old hst (hr.tmp t) fun k hk=>hr.wf.t k t hk
theorem bi (h:∀(c:Ctx) (st:Mst) (ρ:Nat→Value) (a:Act) (w:World),Rp c st ρ a w→(∀x,x∈o.op.operands→st.ev x=s.ev x)→(∀k,aD R k=true→st.h k=s.h k)→
  ∃v,(execOp a.eval o).run P w = .ok (.value v) w∧d.rep w (Fz c st.h ρ w) ρ v∧∀k,d.has k=true→st.f k=false):LOp P o s R ⟨d,[],[]⟩:=by
 intro c st ρ a w hr h1 h2 _ h4;obtain ⟨v,hv,hd,hk⟩:=h c st ρ a w hr h1 h2;refine Oper.wp_value hv ⟨ρ,hr.app (e:=⟨d,[],[]⟩) h4 (fun k hk=>by simp [aD] at hk) (fun _ _=>rfl) (fun k hk=>by simp [ax] at hk) (Frx.refl _ _) (fun k bx g hk=>by simp [ax] at hk) (fun k k' b b' g hk=>by simp [ax] at hk) (fun k h=>.inr (hk k h)) (fun k k' bx hk=>by simp [ax] at hk) (fun k bx hk=>by simp [ax] at hk) hd⟩
theorem Rp.nf {c:Ctx} {st:Mst} {ρ:Nat→Value} {a:Act} {w:World} (hr:Rp c st ρ a w) {x:Operand} {d:TV} (hx:st.ev x=d) {k:Nat} (hk:d.has k=true):st.f k=false:=by
 subst hx;cases hf:st.f k with
 | false=>rfl
 | true =>
  exfalso;cases x with
  | tmp t=>have:=hr.wf.t k t hf;simp only [Mst.ev] at hk;rw [this] at hk;cases hk
  | const v =>
   have:(tP v).has k=false:=by
    unfold tP;split
    ·simp [TV.has,V0.has,D.has]
    ·rfl
   simp only [Mst.ev] at hk;rw [this] at hk;cases hk
  | global g=>simp [Mst.ev,TV.has,V0.has,D.has] at hk
  | func f=>simp [Mst.ev,TV.has,V0.has,D.has] at hk
theorem Rp.nfb {c:Ctx} {st:Mst} {ρ:Nat→Value} {a:Act} {w:World} (hr:Rp c st ρ a w) {k':Nat} {b:Box} (hx:st.h k'=some b) {k:Nat} (hk:b.has k=true):st.f k=false:=by
 cases hf:st.f k with
 | false=>rfl
 | true=>rw [hr.wf.b k k' b hf hx] at hk;cases hk
theorem Rp.nfh {c:Ctx} {st:Mst} {ρ:Nat→Value} {a:Act} {w:World} (hr:Rp c st ρ a w) {k:Nat} {b:Box} (hx:st.h k=some b):st.f k=false:=by
 cases hf:st.f k with
 | false=>rfl
 | true=>rw [hr.wf.h k hf] at hx;cases hx
theorem na {l:List D} {d:D} {i k:Nat} (h:l[i]? = some d) (hk:d.has k=true):l.any (D.has k)=true:=List.any_eq_true.2 ⟨d,List.mem_of_getElem? h,hk⟩
theorem nc {l m:List D} {k:Nat} (h:∀d∈l,d∈m) (hk:l.any (D.has k)=true):m.any (D.has k)=true:=by
 obtain ⟨d,hd,h1⟩:=List.any_eq_true.1 hk;exact List.any_eq_true.2 ⟨d,h d hd,h1⟩
theorem tV {x:Operand} (ho:o.op = .move x∨o.op = .assign x) (hx:s.ev x=d):LOp P o s [] ⟨d,[],[]⟩ :=
 bi fun c st ρ a w hr h1 _=>by
  have he:=h1 x (by rcases ho with ho|ho <;> simp [ho,Op.operands]);rw [hx] at he;exact ⟨a.eval x,by unfold execOp;rcases ho with ho|ho <;> rw [ho] <;> rfl,by have:=hr.ev x;rwa [he] at this,fun k hk=>hr.nf he hk⟩
theorem BF {x:Operand} {y:V0} (ho:o.op = .move x) (hx:s.ev x = .v y):LOp P o s [] ⟨.v y,[],[]⟩:=tV (.inl ho) hx
theorem xm {x:Operand} {y:V0} (ho:o.op = .assign x) (hx:s.ev x = .v y):LOp P o s [] ⟨.v y,[],[]⟩:=tV (.inr ho) hx
theorem xn {x:Operand} {y:List V0} (ho:o.op = .move x) (hx:s.ev x = .tup y):LOp P o s [] ⟨.tup y,[],[]⟩:=tV (.inl ho) hx
theorem yA {x:Operand} {u r:Value} (hop:o.op.operands = #[x]) (hx:s.ev x = .c (.sc u)) (h:∀(ev:Operand→Value) (w:World),ev x=u→(execOp ev o).run P w = .ok (.value r) w):LOp P o s [] ⟨.c (.sc r),[],[]⟩ :=
 bi fun c st ρ a w hr h1 _=>by
  have he:=h1 x (by simp [hop]);rw [hx] at he;have hu:a.eval x=u:=by have:=hr.ev x;rwa [he] at this
  exact ⟨r,h _ _ hu,rfl,fun k hk=>by simp [TV.has,V0.has,D.has] at hk⟩
theorem fM {x y:Operand} {u u' r:Value} (hop:o.op.operands = #[x,y]) (hx:s.ev x = .c (.sc u)) (hy:s.ev y = .c (.sc u')) (h:∀(ev:Operand→Value) (w:World),ev x=u→ev y=u'→(execOp ev o).run P w = .ok (.value r) w):LOp P o s [] ⟨.c (.sc r),[],[]⟩ :=
 bi fun c st ρ a w hr h1 _=>by
  have he:=h1 x (by simp [hop]);have he2:=h1 y (by simp [hop]);rw [hx] at he;rw [hy] at he2;have hu:a.eval x=u:=by have:=hr.ev x;rwa [he] at this
  have hu2:a.eval y=u':=by have:=hr.ev y;rwa [he2] at this
  exact ⟨r,h _ _ hu hu2,rfl,fun k hk=>by simp [TV.has,V0.has,D.has] at hk⟩
theorem i8 {s':TypeId} {f off g p:Nat} {ft:TypeId} [I:FO P s' f off ft] (w:World):(Instr.fieldAt s' (.pointer (some ⟨g,p,none⟩)) f).run P w = .ok (.pointer (some ⟨g,p+off,none⟩)) w:=by
 obtain ⟨fs,x,i,h1,h2,h3,h4,h5,h6⟩:=I.u;subst h3;subst h4;simp [Instr.fieldAt,run_underlying h1,h2,Instr.sureAddr,fieldPlace,sizeOf,typeInfo,h5,h6,eU]
theorem zX {s':TypeId} {x:Operand} {f k p off:Nat} {ft:TypeId} (ho:o.op = .fieldAddr s' x f) (hx:s.ev x = .c (.ptr k p)) [FO P s' f off ft]:LOp P o s [] ⟨.c (.ptr k (p+off)),[],[]⟩ :=
 bi fun c st ρ a w hr h1 _=>by
  have he:=h1 x (by simp [ho,Op.operands]);rw [hx] at he;have hv:=hr.ev x;rw [he] at hv;obtain ⟨g,hg,hv⟩:=hv;refine ⟨_,by unfold execOp;rw [ho];simp only [hv,Sem.run_bind,i8,Result.andThen_ok,Sem.run_pure],⟨g,hg,rfl⟩,fun k' hk=>hr.nf (x:=x) he hk⟩
theorem vo {s':TypeId} {x:Operand} {f p off i:Nat} {ft:TypeId} {α:Type} {E:El α} {l:List α} (ho:o.op = .fieldAddr s' x f) (hx:s.ev x = .c (.eptr E l i p)) [FO P s' f off ft]:LOp P o s [] ⟨.c (.eptr E l i (p+off)),[],[]⟩ :=
 bi fun c st ρ a w hr h1 _=>by
  have he:=h1 x (by simp [ho,Op.operands]);rw [hx] at he;have hv:=hr.ev x;rw [he] at hv;obtain ⟨b,q,hv,h3,h4⟩:=hv;exact ⟨.pointer (some ⟨b,q+i*E.n+(p+off),none⟩),by unfold execOp;rw [ho];simp only [hv,Sem.run_bind,i8,Result.andThen_ok,Sem.run_pure,Nat.add_assoc],⟨b,q,rfl,h3,h4⟩,fun k' hk=>hr.nf (x:=x) he hk⟩
theorem vq {s':TypeId} {x:Operand} {f p off i k m:Nat} {ft:TypeId} (ho:o.op = .fieldAddr s' x f) (hx:s.ev x = .c (.optr k m i p)) [FO P s' f off ft]:LOp P o s [] ⟨.c (.optr k m i (p+off)),[],[]⟩ :=
 bi fun c st ρ a w hr h1 _=>by
  have he:=h1 x (by simp [ho,Op.operands]);rw [hx] at he;have hv:=hr.ev x;rw [he] at hv;obtain ⟨g,n,cap,h3,hv⟩:=hv;exact ⟨.pointer (some ⟨g,i*m+(p+off),none⟩),by unfold execOp;rw [ho];simp only [hv,Sem.run_bind,i8,Result.andThen_ok,Sem.run_pure,Nat.add_assoc],⟨g,n,cap,h3,rfl⟩,fun k' hk=>hr.nf (x:=x) he hk⟩
theorem gq {t e:TypeId} {row:Bool} {n g p:Nat} {kd:IntKind} [I:SE P t e] [J:TI P e row n] (w:World) (len cap i:Nat) (hi:i<len) :
  (Instr.indexAt t (.slice (some ⟨g,p,none⟩) len cap) (.int kd (i:Int))).run P w = .ok (.pointer (some ⟨g,p+i*n,none⟩)) w:=by
 obtain ⟨j,hj,hn⟩:∃j,P.info? e=some j∧j.size=n:=by
  have:=J.s;cases h:P.info? e with
  | none=>simp [h] at this
  | some j=>exact ⟨j,rfl,by simpa [h] using this⟩
 subst hn;simp [Instr.indexAt,asIntOf,run_underlying I.u,sizeOf,typeInfo,hj,hi,eU]
theorem sB {t e:TypeId} {x y:Operand} {row:Bool} {n i:Nat} {kd:IntKind} {z:Int} {α:Type} {E:El α} {l:List α} (ho:o.op = .indexAddr t x y) (hx:s.ev x = .c (.sl E l)) (hy:s.ev y = .c (.sc (.int kd z))) [SE P t e] [TI P e row n] (hn:E.n=n) (hz:z=(i:Int)) (hi:i<l.length) :
  LOp P o s [] ⟨.c (.eptr E l i 0),[],[]⟩ :=
 bi fun c st ρ a w hr h1 _=>by
  have he:=h1 x (by simp [ho,Op.operands]);have he2:=h1 y (by simp [ho,Op.operands]);rw [hx] at he;rw [hy] at he2;have hv:=hr.ev x;rw [he] at hv;have hv2:=hr.ev y;rw [he2] at hv2;obtain ⟨A,cap,hv,hc,hR⟩:=hv;have hv2:a.eval y = .int kd z:=hv2;obtain ⟨xs,h3,h4⟩:=hR;obtain ⟨b,off,hA,hb,hcl⟩:=h4 (by omega);subst hA;subst hz;subst hn;refine ⟨.pointer (some ⟨b,off+i*E.n,none⟩),by unfold execOp;rw [ho];simp only [hv,hv2,Sem.run_bind,gq w l.length cap i hi,Result.andThen_ok,Sem.run_pure],⟨b,off,rfl,⟨xs,h3,h4⟩,hi⟩,fun k' hk=>by simp [TV.has,V0.has,D.has] at hk⟩
theorem dF {w:World} {F:Nat→Prop} {α:Type} {e:TypeId} {E:El α} {l:List α} {ρ:Nat→Value} {v:Value} (h:(Box.arr e E l).rep w F ρ v) :
  ∃A cap,v = .slice A l.length cap∧(l.length≤cap∧cap≤maxLen)∧(0<l.length→∃g xs,A=some ⟨g,0,none⟩∧g<w.heap.size∧Reps E w F l xs∧(∀j u,xs[j]? = some u→w.cell? ⟨g,j,none⟩=some u)∧∀j,j<xs.length→w.frozen? ⟨g,j,none⟩=false):=by
 obtain ⟨xs,h1,h2⟩:=h;rcases h1.2 with ⟨hv,hn⟩|⟨g,cap,cur,hv,_,hh,hnc,hcm,hcs,ht⟩
 ·exact ⟨none,0,by rw [hv,hn],by rw [hn];simp [maxLen],fun h=>by omega⟩
 ·refine ⟨_,cap,hv,⟨hnc,hcm⟩,fun _=>⟨g,xs,rfl,(Array.getElem?_eq_some_iff.1 hh).1,h2,fun j u hu=>?_,fun j _=>by simp [World.frozen?,hh]⟩⟩;rw [cell_of_row w g j cur e (0,0) hh,←Array.getElem?_toList];rw [←ht,List.getElem?_take] at hu;split at hu
  ·exact hu
  ·cases hu
theorem ng {t e:TypeId} {x y:Operand} {row:Bool} {n i k:Nat} {kd:IntKind} {z:Int} {α:Type} {e':TypeId} {E:El α} {l:List α} (ho:o.op = .indexAddr t x y) (hx:s.ev x = .c (.own k)) (hk:s.h k=some (.arr e' E l)) (hy:s.ev y = .c (.sc (.int kd z))) [SE P t e] [TI P e row n] (hn:E.n=n) (hz:z=(i:Int)) (hi:i<l.length) :
  LOp P o s [k] ⟨.c (.optr k n i 0),[],[]⟩ :=
 bi fun c st ρ a w hr h1 h2=>by
  have he:=h1 x (by simp [ho,Op.operands]);have he2:=h1 y (by simp [ho,Op.operands]);rw [hx] at he;rw [hy] at he2;have hv:=hr.ev x;rw [he] at hv;have hv2:=hr.ev y;rw [he2] at hv2;have hv:a.eval x=ρ k:=hv;have hv2:a.eval y = .int kd z:=hv2;have hb:=hr.hp k _ ((h2 k (by simp [aD])).trans hk);obtain ⟨A,cap,hA,hc,hp⟩:=dF hb;obtain ⟨g,xs,rfl,_⟩:=hp (by omega);subst hz;subst hn;rw [hA] at hv;refine ⟨.pointer (some ⟨g,0+i*E.n,none⟩),by unfold execOp;rw [ho];simp only [hv,hv2,Sem.run_bind,gq w l.length cap i hi,Result.andThen_ok,Sem.run_pure],⟨g,_,_,hA,by simp⟩,fun k' hk'=>hr.nf (x:=x) he (by simpa [TV.has,V0.has,D.has] using hk')⟩
theorem lv {t:TypeId} {n g p:Nat} [I:TI P t true n] (w:World) (cs:List Value) (hc:∀j u,cs[j]? = some u→w.cell? ⟨g,p+j,none⟩=some u) (hn:cs.length=n) :
  (Instr.loadAt t (.pointer (some ⟨g,p,none⟩))).run P w = .ok (.agg cs.toArray) w:=by
 obtain ⟨d,hu,hd⟩:=I.u;simp only [Instr.loadAt,Instr.sureAddr,Sem.run_bind,Sem.run_pure,Result.andThen_ok];exact run_loadVar_mid w g p t cs d hc hu (by cases d <;> simp_all [TypeDesc.isRow]) (by rw [I.s,hn])
theorem lw {t:TypeId} {n g p:Nat} [I:TI P t false n] (w:World) (u:Value) (hc:w.cell? ⟨g,p,none⟩=some u):(Instr.loadAt t (.pointer (some ⟨g,p,none⟩))).run P w = .ok u w:=by
 obtain ⟨d,hu,hd⟩:=I.u;simp only [Instr.loadAt,Instr.sureAddr,Sem.run_bind,Sem.run_pure,Result.andThen_ok,loadVar,isAgg,run_underlying hu];cases d <;> simp_all [load,Sem.run]
theorem i9 {t:TypeId} {x:Operand} {row:Bool} {n off:Nat} {ds:List D} {d:TV} (ho:o.op = .load t x) [I:TI P t row n]
  (hd:(row=true∧d = .v (.ag ((ds.drop off).take n))∧off+n≤ds.length)∨(row=false∧∃y,ds[off]? = some y∧d = .c y))
  (h:∀(c:Ctx) (st:Mst) (ρ:Nat→Value) (a:Act) (w:World),Rp c st ρ a w→(∀x,x∈o.op.operands→st.ev x=s.ev x)→(∀k,aD R k=true→st.h k=s.h k)→
   ∃g p vs,a.eval x = .pointer (some ⟨g,p+off,none⟩)∧All2 (D.rep w (Fz c st.h ρ w) ρ) ds vs∧(∀j u,vs[j]? = some u→w.cell? ⟨g,p+j,none⟩=some u)∧∀k,ds.any (D.has k)=true→st.f k=false):LOp P o s R ⟨d,[],[]⟩ :=
 bi fun c st ρ a w hr h1 h2=>by
  obtain ⟨g,p,vs,hv,h3,h4,h5⟩:=h c st ρ a w hr h1 h2;rcases hd with ⟨rfl,rfl,hle⟩|⟨rfl,y,hy,rfl⟩
  ·refine ⟨.agg ((vs.drop off).take n).toArray,?_,⟨_,rfl,(h3.drop off).take n⟩,fun k hk=>h5 k ?_⟩
   ·unfold execOp;rw [ho];simp only [hv,Sem.run_bind];rw [lv w ((vs.drop off).take n) (fun j u hu=>?_) (by rw [List.length_take,List.length_drop,←h3.length];omega)]
    ·rfl
    ·rw [Nat.add_assoc];refine h4 _ u ?_;rw [List.getElem?_take] at hu;split at hu
     ·rwa [List.getElem?_drop] at hu
     ·cases hu
   ·exact nc (fun d hd=>List.mem_of_mem_drop (List.mem_of_mem_take hd)) hk
  ·obtain ⟨u,hu,hrep⟩:=h3.get hy;refine ⟨u,?_,hrep,fun k hk=>h5 k (na hy hk)⟩;unfold execOp;rw [ho];simp only [hv,Sem.run_bind];rw [lw w u (h4 off u hu)];rfl
theorem BG {t ty:TypeId} {x:Operand} {row:Bool} {n k off:Nat} {cs:List D} {d:TV} [I:TI P t row n] (ho:o.op = .load t x) (hx:s.ev x = .c (.ptr k off)) (hk:s.h k=some (.box ty cs))
  (hd:(row=true∧d = .v (.ag ((cs.drop off).take n))∧off+n≤cs.length)∨(row=false∧∃y,cs[off]? = some y∧d = .c y)):LOp P o s [k] ⟨d,[],[]⟩ :=
 i9 ho hd fun c st ρ a w hr h1 h2=>by
  have he:=h1 x (by simp [ho,Op.operands]);rw [hx] at he;have hv:=hr.ev x;rw [he] at hv;obtain ⟨g,hg,hv⟩:=hv;have hk':=(h2 k (by simp [aD])).trans hk;obtain ⟨g',vs,e1,h3,h4,_⟩:=hr.hp k _ hk';rw [hg] at e1;injection e1 with e1;injection e1 with e1;injection e1 with e1;subst e1;exact ⟨g,0,vs,by rw [Nat.zero_add];exact hv,h4,fun j u hu=>by rw [Nat.zero_add];exact h3.cellx j (by simpa using hu),fun k' hh=>hr.nfb hk' (by simpa [Box.has] using hh)⟩
theorem BH {t ty:TypeId} {x:Operand} {n k off:Nat} {cs:List D} {y:D} [TI P t false n] (ho:o.op = .load t x) (hx:s.ev x = .c (.ptr k off)) (hk:s.h k=some (.box ty cs)) (hy:cs[off]? = some y):LOp P o s [k] ⟨.c y,[],[]⟩:=BG ho hx hk (.inr ⟨rfl,y,hy,rfl⟩)
theorem tW {t ty:TypeId} {x:Operand} {n k off:Nat} {cs ds:List D} [TI P t true n] (ho:o.op = .load t x) (hx:s.ev x = .c (.ptr k off)) (hk:s.h k=some (.box ty cs)) (hd:(cs.drop off).take n=ds) (hl:off+n≤cs.length):LOp P o s [k] ⟨.v (.ag ds),[],[]⟩:=BG ho hx hk (.inl ⟨rfl,by rw [hd],hl⟩)
theorem BI {t:TypeId} {x:Operand} {row:Bool} {n i off:Nat} {α:Type} {E:El α} {l:List α} {y:α} {d:TV} [I:TI P t row n] [J:Dp E] (ho:o.op = .load t x) (hx:s.ev x = .c (.eptr E l i off)) (hy:l[i]? = some y)
  (hd:(row=true∧d = .v (.ag (((J.deep y).drop off).take n))∧off+n≤(J.deep y).length)∨(row=false∧∃z,(J.deep y)[off]? = some z∧d = .c z)):LOp P o s [] ⟨d,[],[]⟩ :=
 i9 ho hd fun c st ρ a w hr h1 h2=>by
  have he:=h1 x (by simp [ho,Op.operands]);rw [hx] at he;have hv:=hr.ev x;rw [he] at hv;obtain ⟨b,q,hv,h3,h4⟩:=hv;have hyx:l[i]=y:=by rw [List.getElem?_eq_getElem h4] at hy;exact Option.some.inj hy
  obtain ⟨b',q',cs,e1,_,h5,h6⟩:=h3.getx h4 hyx;injection e1 with e1;injection e1 with e1 e2;subst e1;subst e2;refine ⟨b,q+i*E.n,cs,hv,J.get h5,fun j u hu=>?_,fun k' hh=>by rw [J.nok] at hh;cases hh⟩;rw [h6 j (by rw [←E.len h5];exact (List.getElem?_eq_some_iff.1 hu).1),hu]
theorem xo {t:TypeId} {x:Operand} {n i off:Nat} {α:Type} {E:El α} {l:List α} {y:α} {z:D} [TI P t false n] [J:Dp E] (ho:o.op = .load t x) (hx:s.ev x = .c (.eptr E l i off)) (hy:l[i]? = some y) (hz:(J.deep y)[off]? = some z):LOp P o s [] ⟨.c z,[],[]⟩:=BI ho hx hy (.inr ⟨rfl,z,hz,rfl⟩)
theorem oQ {t:TypeId} {x:Operand} {n i off:Nat} {α:Type} {E:El α} {l:List α} {y:α} {ds:List D} [TI P t true n] [J:Dp E] (ho:o.op = .load t x) (hx:s.ev x = .c (.eptr E l i off)) (hy:l[i]? = some y) (hd:((J.deep y).drop off).take n=ds) (hl:off+n≤(J.deep y).length):LOp P o s [] ⟨.v (.ag ds),[],[]⟩:=BI ho hx hy (.inl ⟨rfl,by rw [hd],hl⟩)
theorem BJ {t e:TypeId} {x:Operand} {row:Bool} {n m i k off:Nat} {α:Type} {E:El α} {l:List α} {y:α} {d:TV} [I:TI P t row n] [J:Dp E] (ho:o.op = .load t x) (hx:s.ev x = .c (.optr k m i off)) (hk:s.h k=some (.arr e E l)) (hm:E.n=m) (hy:l[i]? = some y)
  (hd:(row=true∧d = .v (.ag (((J.deep y).drop off).take n))∧off+n≤(J.deep y).length)∨(row=false∧∃z,(J.deep y)[off]? = some z∧d = .c z)):LOp P o s [k] ⟨d,[],[]⟩ :=
 i9 ho hd fun c st ρ a w hr h1 h2=>by
  have he:=h1 x (by simp [ho,Op.operands]);rw [hx] at he;have hv:=hr.ev x;rw [he] at hv;obtain ⟨g,nn,cap,hg,hv⟩:=hv;have hk':=(h2 k (by simp [aD])).trans hk;have hil:i<l.length:=(List.getElem?_eq_some_iff.1 hy).1;obtain ⟨A,cap',hA,_,hp⟩:=dF (hr.hp k _ hk');obtain ⟨g',xs,rfl,_,h3,h4,_⟩:=hp (by omega);rw [hg] at hA;injection hA with e1 _ _;injection e1 with e1;injection e1 with e1;subst e1;obtain ⟨cs,h5,h6⟩:=h3.get i hil;rw [List.getElem?_eq_getElem hil] at hy;rw [Option.some.inj hy] at h5;subst hm;refine ⟨g,i*E.n,cs,hv,J.get h5,fun j u hu=>?_,fun k' hh=>by rw [J.nok] at hh;cases hh⟩;exact h4 _ u (by rw [h6 j (by rw [←E.len h5];exact (List.getElem?_eq_some_iff.1 hu).1),hu])
theorem xp {t e:TypeId} {x:Operand} {n m i k off:Nat} {α:Type} {E:El α} {l:List α} {y:α} {z:D} [TI P t false n] [J:Dp E] (ho:o.op = .load t x) (hx:s.ev x = .c (.optr k m i off)) (hk:s.h k=some (.arr e E l)) (hm:E.n=m) (hy:l[i]? = some y) (hz:(J.deep y)[off]? = some z):LOp P o s [k] ⟨.c z,[],[]⟩:=BJ ho hx hk hm hy (.inr ⟨rfl,z,hz,rfl⟩)
theorem oR {t e:TypeId} {x:Operand} {n m i k off:Nat} {α:Type} {E:El α} {l:List α} {y:α} {ds:List D} [TI P t true n] [J:Dp E] (ho:o.op = .load t x) (hx:s.ev x = .c (.optr k m i off)) (hk:s.h k=some (.arr e E l)) (hm:E.n=m) (hy:l[i]? = some y) (hd:((J.deep y).drop off).take n=ds) (hl:off+n≤(J.deep y).length):LOp P o s [k] ⟨.v (.ag ds),[],[]⟩:=BJ ho hx hk hm hy (.inl ⟨rfl,by rw [hd],hl⟩)
end
def D.okc:D→Bool
 | .any=>false
 | .sc x=>x.oneCell'
 | .own _=>false
 | _=>true
section
variable {P:Program} {o:Oper} {s:Mst} {R:List Nat} {d:TV}
theorem D.one_of {w:World} {F:Nat→Prop} {ρ:Nat→Value} {d:D} {v:Value} (h:d.rep w F ρ v) (hk:d.okc=true):v.oneCell'=true:=by
 cases d with
 | any=>cases hk
 | sc x=>have h:v=x:=h;rw [h];exact hk
 | sl E l=>obtain ⟨A,cap,rfl,_⟩:=h;rfl
 | full E l=>obtain ⟨A,rfl,_⟩:=h;rfl
 | own k=>cases hk
 | slb k n=>obtain ⟨g,_,rfl⟩:=h;rfl
 | ptr k off=>obtain ⟨g,_,rfl⟩:=h;rfl
 | eptr E l i off=>obtain ⟨b,o,rfl,_⟩:=h;rfl
 | optr k m i off=>obtain ⟨g,n,cap,_,rfl⟩:=h;rfl
 | ocut k=>obtain ⟨A,n,cap,c,_,_,rfl⟩:=h;rfl
 | osl k m lo hi fl=>obtain ⟨g,n,cap,c,A,_,_,_,rfl,_⟩:=h;rfl
 | clo f ks=>obtain ⟨vs,rfl,_⟩:=h;rfl
theorem DT {w:World} {F:Nat→Prop} {α:Type} {e:TypeId} {E:El α} {l:List α} {ρ:Nat→Value} {v:Value} (h:(Box.arr e E l).rep w F ρ v):v.oneCell'=true:=by
 obtain ⟨A,cap,rfl,_⟩:=dF h;rfl
theorem Rp.box {c:Ctx} {st:Mst} {ρ:Nat→Value} {a:Act} {w:World} (hr:Rp c st ρ a w) {k:Nat} {t:TypeId} {cs:List D} (hk:st.h k=some (.box t cs)) {g:Nat} (hg:ρ k = .pointer (some ⟨g,0,none⟩)) :
  ∃vs:List Value,Blk w g t vs.toArray∧All2 (D.rep w (Fz c st.h ρ w) ρ) cs vs∧∀u∈vs,u.oneCell'=true:=by
 obtain ⟨g',vs,e1,h3,h4,h5⟩:=hr.hp k _ hk;rw [hg] at e1;injection e1 with e1;injection e1 with e1;injection e1 with e1;subst e1;exact ⟨vs,h3,h4,h5⟩
theorem xq {w:World} {g:Nat} {t:TypeId} {old new:Array Value} (hb:Blk w g t old):Blk (w.setRow g new) g t new∧But g w (w.setRow g new) :=
 ⟨setRow_heap w g old new t (0,0) hb,⟨rfl,rfl,rfl,by simp,fun k hk hg=>setRow_other w g k new hg⟩⟩
theorem Rp.setBox {c:Ctx} {st:Mst} {ρ:Nat→Value} {a:Act} {w w':World} {dst:Option Nat} {v:Value} {k g:Nat} {t:TypeId} {cs cs':List D} {vs':List Value} (hr:Rp c st ρ a w) (hdst:∀d,dst=some d→d<c.nt)
  (hk:st.h k=some (.box t cs)) (hg:ρ k = .pointer (some ⟨g,0,none⟩)) (hb:But g w w') (hB:Blk w' g t vs'.toArray) (h2:All2 (D.rep w (Fz c st.h ρ w) ρ) cs' vs') (h1:∀u∈vs',u.oneCell'=true)
  (hh:∀k',cs'.any (D.has k')=true→st.f k'=false):Rp c (st.app dst ⟨.c .any,[(k,some (.box t cs'))],[]⟩) ρ (a.put dst v) w':=by
 have hkk:∀k':Nat,ax [(k,some (Box.box t cs'))] k'=true→k'=k:=fun k' h=>by
  simp only [ax,Bool.or_false] at h;exact (Nat.eq_of_beq_eq_true h).symm
 have hkb:kb (ρ k)=some g:=by rw [hg];rfl
 have hfz:∀b,Fz c st.h ρ w b→Fz c (hput [(k,some (Box.box t cs'))] st.h) ρ w' b∧w'.heap[b]? = w.heap[b]?:=fun b ⟨f1,f2,f3⟩=>by
  have hbg:b≠g:=fun e=>f3 k _ hk (by rw [hkb,e]);refine ⟨⟨f1,Nat.lt_of_lt_of_le f2 hb.size,fun k' bx hk'=>?_⟩,hb.block b f2 hbg⟩;simp only [hput] at hk';cases h9:k.beq k' with
  | true=>rw [←Nat.eq_of_beq_eq_true h9,hkb];intro e;injection e with e;exact hbg e.symm
  | false=>rw [h9] at hk';exact f3 k' bx hk'
 refine hr.app (e:=⟨.c .any,[(k,some (.box t cs'))],[]⟩) hdst (fun k h=>by simp [aD] at h) (fun _ _=>rfl) (fun k' h=>.inr (by rw [hkk k' h];exact hr.nfh hk)) ⟨hb.os,hb.tape,hb.output,hb.size,fun b hlt hn=>hb.block b hlt fun e=>hn ⟨k,_,by simp [ax],hk,by rw [hkb,e]⟩⟩ ?_ ?_ (fun k h=>by simp [TV.has,V0.has,D.has] at h) ?_ ?_ trivial
 ·intro k' bx g' h _ hg';rw [hkk k' h,hkb] at hg';injection hg' with hg';subst hg';exact ⟨hB.lt,.inr ⟨k,_,by simp [ax],hk,hkb⟩⟩
 ·intro k1 k2 _ _ _ h h' _ _ _ _;rw [hkk k1 h,hkk k2 h']
 ·intro k1 k2 bx h hp hx;rw [hkk k2 h] at hp;simp only [hput,Nat.beq_refl,cond_true,Option.some.injEq] at hp;subst hp;exact .inr (hh k1 hx)
 ·intro k2 bx h hp;rw [hkk k2 h] at hp ⊢;simp only [hput,Nat.beq_refl,cond_true,Option.some.injEq] at hp;subst hp;exact ⟨g,vs',hg,hB,h2.imp fun d v _ hd=>hd.mono hfz fun _ _=>rfl,h1⟩
theorem rp {t ty:TypeId} {row:Bool} {n g off:Nat} [I:TI P t row n] {w:World} {old:List Value} {v:Value} (hb:Blk w g ty old.toArray) (hn:v.cells.size=n) (hl:off+n≤old.length) (h1:∀u∈v.cells.toList,u.oneCell'=true) :
  (Instr.storeAt t (.pointer (some ⟨g,off,none⟩)) v).run P w = .ok () (w.setRow g (old.take off++v.cells.toList++old.drop (off+n)).toArray):=by
 have h2:=run_storeCells_at (P:=P) g off ty v.cells.toList 0 old.toArray w hb (by simp [hn];omega) h1;simp only [Nat.add_zero,Array.length_toList,hn] at h2;have hi:=I.s;cases hq:P.info? t with
 | none=>simp [hq] at hi
 | some i =>
  have hs:v.cells.size=i.size:=by simp [hq] at hi;omega
  simp only [Instr.storeAt,Instr.sureAddr,Sem.run_bind,Sem.run_pure,Result.andThen_ok];simp [storeVar,sizeOf,typeInfo,hq,hs,h2]
def TV.cells:TV→Option (List D)
 | .v (.one d)=>some [d]
 | .v (.ag l)=>some l
 | _=>none
theorem TV.cells_rep {w:World} {F:Nat→Prop} {ρ:Nat→Value} {d:TV} {ds:List D} {v:Value} (h:d.rep w F ρ v) (hc:d.cells=some ds) (hok:∀x∈ds,∀u,x.rep w F ρ u→u.oneCell'=true):All2 (D.rep w F ρ) ds v.cells.toList∧∀u∈v.cells.toList,u.oneCell'=true:=by
 unfold TV.cells at hc;split at hc
 ·rename_i y
  injection hc with hc;subst hc;have h:y.rep w F ρ v:=h;have h1:=hok y (by simp) v h;have h2:v.cells = #[v]:=by cases v <;> first|rfl|(simp [Value.oneCell'] at h1)
  rw [h2];exact ⟨⟨h,trivial⟩,by simpa using h1⟩
 ·injection hc with hc;subst hc;obtain ⟨cs,rfl,h2⟩:=h;refine ⟨by simpa [Value.cells] using h2,?_⟩;have:∀(l:List D) (cs:List Value),All2 (D.rep w F ρ) l cs→(∀x∈l,∀u,x.rep w F ρ u→u.oneCell'=true)→∀u∈cs,u.oneCell'=true:=by
   intro l;induction l with
   | nil=>intro cs h;cases cs with
    | nil=>intro _ u hu;cases hu
    | cons=>exact h.elim
   | cons x l ih =>
    intro cs h hx;cases cs with
    | nil=>exact h.elim
    | cons c cs =>
     intro u hu;rcases List.mem_cons.1 hu with rfl|hu
     ·exact hx x (by simp) _ h.1
     ·exact ih cs h.2 (fun y hy=>hx y (by simp [hy])) u hu
  simpa [Value.cells] using this _ _ h2 hok
 ·cases hc
def okD (h:Nat→Option Box):D→Bool
 | .any=>false
 | .sc x=>x.oneCell'
 | .own k=>match h k with|some (.arr ..)=>true|some (.mp ..)=>true|_=>false
 | _=>true
def fA:List D→List Nat
 | []=>[]
 | .own k :: l=>k :: fA l
 | _ :: l=>fA l
theorem eh:∀{l:List D} {k:Nat},D.own k∈l→aD (fA l) k=true
 | [],_,h=>by cases h
 | d :: l,k,h=>by
  rcases List.mem_cons.1 h with rfl|h2
  ·simp [fA,aD]
  ·have h3:=eh h2;cases d <;> simp [fA,aD,h3]
theorem Rp.okD {c:Ctx} {st:Mst} {ρ:Nat→Value} {a:Act} {w:World} (hr:Rp c st ρ a w) {d:D} (hd:okD st.h d=true) {u:Value} (h:d.rep w (Fz c st.h ρ w) ρ u):u.oneCell'=true:=by
 cases d with
 | own k =>
  unfold Go.Proofs.YtcgpepnbohejfaaGreatDoor.okD at hd;have h:u=ρ k:=h;cases hk:st.h k with
  | none=>simp only [hk] at hd;cases hd
  | some b =>
   cases b with
   | box=>simp only [hk] at hd;cases hd
   | arr e E l=>rw [h];exact DT (hr.hp k _ hk)
   | mp l=>obtain ⟨g,e,_⟩:=hr.hp k _ hk;rw [h,e];rfl
   | it=>simp only [hk] at hd;cases hd
 | any=>cases hd
 | sc x=>exact D.one_of h hd
 | _=>exact D.one_of h rfl
theorem fT {h h':Nat→Option Box} {d:D} (hd:okD h d=true) (he:∀k,d = .own k→h' k=h k):okD h' d=true:=by
 cases d with
 | own k=>simp only [okD] at hd ⊢;rw [he k rfl];exact hd
 | _=>exact hd
theorem jA:∀{l m:List Nat} {k:Nat},aD (l++m) k=(aD l k || aD m k)
 | [],_,_=>by simp [aD]
 | x :: l,m,k=>by simp [aD,jA (l:=l),Bool.or_assoc]
theorem zY {t ty:TypeId} {x y:Operand} {row:Bool} {n k off:Nat} {cs ds new:List D} [I:TI P t row n] (ho:o.op = .store t x y) (hx:s.ev x = .c (.ptr k off)) (hk:s.h k=some (.box ty cs)) (hd:(s.ev y).cells=some ds) (hn:ds.length=n) (hl:off+n≤cs.length) (hok:ds.all (okD s.h)=true)
  (hnew:cs.take off++ds++cs.drop (off+n)=new):LOp P o s (k :: fA ds) ⟨.c .any,[(k,some (.box ty new))],[]⟩:=by
 intro c st ρ a w hr h1 h2 _ h4;subst hnew;have he:=h1 x (by simp [ho,Op.operands]);have he2:=h1 y (by simp [ho,Op.operands]);rw [hx] at he;rw [←he2] at hd;have hv:=hr.ev x;rw [he] at hv;obtain ⟨g,hg,hv⟩:=hv;have hk':=(h2 k (by simp [aD])).trans hk;obtain ⟨vs,hB,hA,h1c⟩:=hr.box hk' hg;have hok':∀z∈ds,∀u,z.rep w (Fz c st.h ρ w) ρ u→u.oneCell'=true:=fun z hz u hu=>hr.okD (fT (List.all_eq_true.1 hok z hz) fun j hj=>h2 j (by subst hj;simp only [aD,eh hz,Bool.or_true])) hu;obtain ⟨hc1,hc2⟩:=TV.cells_rep (hr.ev y) hd hok';have hsz:(a.eval y).cells.size=n:=by rw [←Array.length_toList,←hc1.length,hn]
 have hvl:=hA.length;have hrun:=rp (P:=P) (t:=t) (off:=off) hB hsz (by omega) hc2;obtain ⟨hB',hBut⟩:=xq (new:=(vs.take off++(a.eval y).cells.toList++vs.drop (off+n)).toArray) hB;refine Oper.wp_skip (w':=w.setRow g (vs.take off++(a.eval y).cells.toList++vs.drop (off+n)).toArray) ?_ ⟨ρ,hr.setBox h4 hk' hg hBut hB' (((hA.take off).append hc1).append (hA.drop (off+n))) ?_ ?_⟩
 ·unfold execOp;rw [ho];simp only [hv,Sem.run_bind,hrun,Result.andThen_ok,Sem.run_pure]
 ·intro u hu;simp only [List.mem_append] at hu;rcases hu with (hu|hu)|hu
  ·exact h1c u (List.mem_of_mem_take hu)
  ·exact hc2 u hu
  ·exact h1c u (List.mem_of_mem_drop hu)
 ·intro k' hh;obtain ⟨z,hz,hz2⟩:=List.any_eq_true.1 hh;simp only [List.mem_append] at hz;rcases hz with (hz|hz)|hz
  ·exact hr.nfb hk' (by simp only [Box.has];exact List.any_eq_true.2 ⟨z,List.mem_of_mem_take hz,hz2⟩)
  ·refine hr.nf (x:=y) rfl ?_;generalize st.ev y=q at *
   unfold TV.cells at hd;split at hd
   ·injection hd with hd;subst hd;simp at hz;subst hz;exact hz2
   ·injection hd with hd;subst hd;simp only [TV.has,V0.has];exact List.any_eq_true.2 ⟨z,hz,hz2⟩
   ·cases hd
  ·exact hr.nfb hk' (by simp only [Box.has];exact List.any_eq_true.2 ⟨z,List.mem_of_mem_drop hz,hz2⟩)
def upd (ρ:Nat→Value) (k:Nat) (v:Value) (n:Nat):Value:=bif k.beq n then v else ρ n
theorem aI (ρ:Nat→Value) (k:Nat) (v:Value):upd ρ k v k=v:=by simp [upd]
theorem de {ρ:Nat→Value} {k n:Nat} {v:Value} (h:k.beq n=false):upd ρ k v n=ρ n:=by simp [upd,h]
theorem Rp.newBox {c:Ctx} {st:Mst} {ρ:Nat→Value} {a:Act} {w:World} {dst:Option Nat} {k:Nat} {t:TypeId} {cs:List D} {vs:List Value} {d:TV} {v:Value} (hr:Rp c st ρ a w) (hdst:∀d,dst=some d→d<c.nt) (hf:st.f k=true)
  (h2:All2 (D.rep w (Fz c st.h ρ w) ρ) cs vs) (h1:∀u∈vs,u.oneCell'=true) (hh:∀k',cs.any (D.has k')=true→st.f k'=false) (hd:∀k',d.has k'=true→k'=k)
  (hv:∀F ρ',ρ' k = .pointer (some ⟨w.heap.size,0,none⟩)→d.rep (w.alloc (.cells vs.toArray t)) F ρ' v):∃ρ',Rp c (st.app dst ⟨d,[(k,some (.box t cs))],[k]⟩) ρ' (a.put dst v) (w.alloc (.cells vs.toArray t)):=by
 have hkk:∀k':Nat,ax [(k,some (Box.box t cs))] k'=true→k'=k:=fun k' h=>by
  simp only [ax,Bool.or_false] at h;exact (Nat.eq_of_beq_eq_true h).symm
 have hul:∀k':Nat,aD [k] k'=k.beq k':=fun k'=>by simp [aD]
 have hfz:∀b,Fz c st.h ρ w b→Fz c (hput [(k,some (Box.box t cs))] st.h) (upd ρ k (.pointer (some ⟨w.heap.size,0,none⟩))) (w.alloc (.cells vs.toArray t)) b∧(w.alloc (.cells vs.toArray t)).heap[b]? = w.heap[b]?:=fun b ⟨f1,f2,f3⟩=>by
  refine ⟨⟨f1,by simp;omega,fun k' bx hk'=>?_⟩,Below.heap_alloc w _ b f2⟩;simp only [hput] at hk';cases h9:k.beq k' with
  | true=>rw [←Nat.eq_of_beq_eq_true h9,aI];intro e;injection e with e;simp at e;omega
  | false=>rw [h9] at hk';rw [de h9];exact f3 k' bx hk'
 refine ⟨upd ρ k (.pointer (some ⟨w.heap.size,0,none⟩)),hr.app (e:=⟨d,[(k,some (.box t cs))],[k]⟩) hdst (fun k' h=>?_) (fun k' h=>?_) (fun k' h=>.inl ?_) (Frx.alloc _ _ _) ?_ ?_ (fun k' h=>.inl ?_) ?_ ?_ ?_⟩
 ·rw [hul] at h;rw [←Nat.eq_of_beq_eq_true h];exact ⟨hf,by simp [ax]⟩
 ·exact de (by rw [←hul];exact h)
 ·rw [hkk k' h];simp [aD]
 ·intro k' bx g' h _ hg';rw [hkk k' h,aI] at hg';injection hg' with hg';subst hg';exact ⟨by simp,.inl (Nat.le_refl _)⟩
 ·intro k1 k2 _ _ _ h h' _ _ _ _;rw [hkk k1 h,hkk k2 h']
 ·rw [hd k' h];simp [aD]
 ·intro k1 k2 bx h hp hx;rw [hkk k2 h] at hp;simp only [hput,Nat.beq_refl,cond_true,Option.some.injEq] at hp;subst hp;exact .inr (hh k1 hx)
 ·intro k2 bx h hp;rw [hkk k2 h] at hp ⊢;simp only [hput,Nat.beq_refl,cond_true,Option.some.injEq] at hp;subst hp;rw [aI];refine ⟨_,vs,rfl,Blk.new w t vs.toArray,h2.imp fun d v hm hd=>hd.mono hfz fun k' hk'=>de ?_,h1⟩;have h3:=hh k' (List.any_eq_true.2 ⟨d,hm,hk'⟩);cases h9:k.beq k' with
  | false=>rfl
  | true=>rw [←Nat.eq_of_beq_eq_true h9,hf] at h3;cases h3
 ·exact hv _ _ (aI _ _ _)
theorem vr {t:TypeId} {zs:List Value} [I:TZ P t zs] (w:World):(Instr.alloc t true (.tuple #[])).run P w = .ok (.pointer (some ⟨w.heap.size,0,none⟩)) (w.alloc (.cells zs.toArray t)):=by
 obtain ⟨i,v,h1,h2,h3⟩:=I.z;simp [Instr.alloc,zeroValue,typeInfo,h1,h2,newVar,newRow,run_newObj,h3]
theorem zZ {t:TypeId} {k:Nat} {zs:List Value} {ds:List D} [I:TZ P t zs] (ho:o.op = .alloc t) (hdk:o.dst=some k) (hz:zs.map D.sc=ds):LOp P o s [] ⟨.c (.ptr k 0),[(k,some (.box t ds))],[k]⟩:=by
 intro c st ρ a w hr h1 h2 h3 h4;subst hz;obtain ⟨ρ',h⟩:=hr.newBox (k:=k) (t:=t) (cs:=zs.map D.sc) (vs:=zs) (d:=.c (.ptr k 0)) (v:=.pointer (some ⟨w.heap.size,0,none⟩)) h4 (h3 k (by simp [aD])) (All2.scs _) I.o
  (fun k' hh=>by simp [D.has] at hh) (fun k' hh=>by simp [TV.has,V0.has,D.has] at hh;exact hh.symm) (fun F ρ' hρ=>⟨_,hρ,rfl⟩)
 exact Oper.wp_value (by unfold execOp;rw [ho];simp only [Sem.run_bind,vr,Result.andThen_ok,Sem.run_pure]) ⟨ρ',h⟩
end
def D.ren (q:Nat→Nat):D→D
 | .own k=>.own (q k)
 | .slb k n=>.slb (q k) n
 | .ptr k off=>.ptr (q k) off
 | .optr k m i off=>.optr (q k) m i off
 | .ocut k=>.ocut (q k)
 | .osl k m lo hi fl=>.osl (q k) m lo hi fl
 | .clo f ks=>.clo f (ks.map q)
 | d=>d
def V0.ren (q:Nat→Nat):V0→V0
 | .one d=>.one (d.ren q)
 | .ag l=>.ag (l.map (D.ren q))
def TV.ren (q:Nat→Nat):TV→TV
 | .v x=>.v (x.ren q)
 | .tup l=>.tup (l.map (V0.ren q))
def Box.ren (q:Nat→Nat):Box→Box
 | .box t cs=>.box t (cs.map (D.ren q))
 | .it k n l=>.it (q k) n l
 | b=>b
section
variable {w:World} {F:Nat→Prop} {ρ ρ':Nat→Value} {q:Nat→Nat}
theorem D.rep_ren {d:D} {v:Value} (hq:∀k,d.has k=true→ρ' k=ρ (q k)):(d.ren q).rep w F ρ v↔d.rep w F ρ' v:=by
 cases d with
 | clo f ks =>
  have hm:∀k,k∈ks→ρ' k=ρ (q k):=fun k hk=>hq k (by simp only [D.has];exact List.any_eq_true.2 ⟨k,hk,Nat.beq_refl k⟩);constructor
  ·rintro ⟨vs,e,h⟩;exact ⟨vs,e,(All2.mapL.1 h).imp fun k u hk (hu:u=ρ (q k))=>hu.trans (hm k hk).symm⟩
  ·rintro ⟨vs,e,h⟩;exact ⟨vs,e,All2.mapL.2 (h.imp fun k u hk (hu:u=ρ' k)=>hu.trans (hm k hk))⟩
 | _=>first|exact Iff.rfl|(simp only [D.ren,D.rep];rw [hq _ (by simp [D.has])])
theorem V0.rep_ren {d:V0} {v:Value} (hq:∀k,d.has k=true→ρ' k=ρ (q k)):(d.ren q).rep w F ρ v↔d.rep w F ρ' v:=by
 cases d with
 | one d=>exact D.rep_ren hq
 | ag l =>
  constructor
  ·rintro ⟨cs,e,h⟩;exact ⟨cs,e,(All2.mapL.1 h).imp fun d u hd h1=>(D.rep_ren fun k hk=>hq k (by simp only [V0.has];exact List.any_eq_true.2 ⟨d,hd,hk⟩)).1 h1⟩
  ·rintro ⟨cs,e,h⟩;exact ⟨cs,e,All2.mapL.2 (h.imp fun d u hd h1=>(D.rep_ren fun k hk=>hq k (by simp only [V0.has];exact List.any_eq_true.2 ⟨d,hd,hk⟩)).2 h1)⟩
theorem TV.rep_ren {d:TV} {v:Value} (hq:∀k,d.has k=true→ρ' k=ρ (q k)):(d.ren q).rep w F ρ v↔d.rep w F ρ' v:=by
 cases d with
 | v d=>exact V0.rep_ren hq
 | tup l =>
  constructor
  ·rintro ⟨cs,e,h⟩;exact ⟨cs,e,(All2.mapL.1 h).imp fun d u hd h1=>(V0.rep_ren fun k hk=>hq k (by simp only [TV.has];exact List.any_eq_true.2 ⟨d,hd,hk⟩)).1 h1⟩
  ·rintro ⟨cs,e,h⟩;exact ⟨cs,e,All2.mapL.2 (h.imp fun d u hd h1=>(V0.rep_ren fun k hk=>hq k (by simp only [TV.has];exact List.any_eq_true.2 ⟨d,hd,hk⟩)).2 h1)⟩
theorem Box.rep_ren {d:Box} {v:Value} (hq:∀k,d.has k=true→ρ' k=ρ (q k)):(d.ren q).rep w F ρ v↔d.rep w F ρ' v:=by
 cases d with
 | box t cs =>
  constructor
  ·rintro ⟨g,vs,e,hb,h,h1⟩;exact ⟨g,vs,e,hb,(All2.mapL.1 h).imp fun d u hd h1=>(D.rep_ren fun k hk=>hq k (by simp only [Box.has];exact List.any_eq_true.2 ⟨d,hd,hk⟩)).1 h1,h1⟩
  ·rintro ⟨g,vs,e,hb,h,h1⟩;exact ⟨g,vs,e,hb,All2.mapL.2 (h.imp fun d u hd h1=>(D.rep_ren fun k hk=>hq k (by simp only [Box.has];exact List.any_eq_true.2 ⟨d,hd,hk⟩)).2 h1),h1⟩
 | arr e E l=>exact Iff.rfl
 | mp l=>exact Iff.rfl
 | it k n l=>simp only [Box.ren,Box.rep];rw [hq k (by simp [Box.has])]
end
inductive DLe (s:Mst) (q:Nat→Nat) (gone:Nat→Prop):D→D→Prop
 | any (d0:D):DLe s q gone d0 .any
 | ren (d:D):DLe s q gone (d.ren q) d
 | nil {α:Type} (E:El α):DLe s q gone (.sc (.slice none 0 0)) (.sl E [])
 | full {α:Type} (E:El α) (l:List α):DLe s q gone (.full E l) (.sl E l)
 | froz {α:Type} (e:TypeId) (E:El α) (l:List α) (k:Nat) (hk:s.h k=some (.arr e E l)) (hg:gone k):DLe s q gone (.own k) (.sl E l)
 | frozc {α:Type} (e:TypeId) (E:El α) (l:List α) (k:Nat) (hk:s.h k=some (.arr e E l)) (hg:gone k):DLe s q gone (.ocut k) (.sl E l)
 | ocut {α:Type} (e:TypeId) (E:El α) (l:List α) (k:Nat) (hk:s.h (q k)=some (.arr e E l)):DLe s q gone (.own (q k)) (.ocut k)
inductive V0Le (s:Mst) (q:Nat→Nat) (gone:Nat→Prop):V0→V0→Prop
 | one {d0 d:D} (h:DLe s q gone d0 d):V0Le s q gone (.one d0) (.one d)
 | ag {l0 l:List D} (h:All2 (DLe s q gone) l0 l):V0Le s q gone (.ag l0) (.ag l)
 | any (x:V0):V0Le s q gone x (.one .any)
inductive TVLe (s:Mst) (q:Nat→Nat) (gone:Nat→Prop):TV→TV→Prop
 | v {d0 d:V0} (h:V0Le s q gone d0 d):TVLe s q gone (.v d0) (.v d)
 | tup {l0 l:List V0} (h:All2 (V0Le s q gone) l0 l):TVLe s q gone (.tup l0) (.tup l)
 | any (x:TV):TVLe s q gone x (.c .any)
inductive BoxLe (s:Mst) (q:Nat→Nat) (gone:Nat→Prop):Box→Box→Prop
 | box (t:TypeId) {l0 l:List D} (h:All2 (DLe s q gone) l0 l):BoxLe s q gone (.box t l0) (.box t l)
 | arr {α:Type} (e:TypeId) (E:El α) (l:List α):BoxLe s q gone (.arr e E l) (.arr e E l)
 | mp (l:List (Value×Value)):BoxLe s q gone (.mp l) (.mp l)
 | it (k n:Nat) (l:List Nat):BoxLe s q gone (.it (q k) n l) (.it k n l)
theorem xr {w:World} {c:Ctx} {h h':Nat→Option Box} {ρ ρ':Nat→Value} {α:Type} {e:TypeId} {E:El α} {l:List α} {v:Value} {s:Mst} {a:Act} (hr:Rp c s ρ a w) {k:Nat} (hk:s.h k=some (.arr e E l)) (hv:(D.ocut k).rep w (Fz c s.h ρ w) ρ v) (hF:∀b,Fz c s.h ρ w b→Fz c h' ρ' w b) (hg:∀g,kb (ρ k)=some g→Fz c h' ρ' w g):(D.sl E l).rep w (Fz c h' ρ' w) ρ' v:=by
 obtain ⟨A0,n0,cap0,c0,hρ0,hc0,rfl⟩:=hv;obtain ⟨A,cap,hA,hc,hp⟩:=dF (hr.hp k _ hk);have hA':=hA;rw [hρ0] at hA';injection hA' with e1 e2 e3;subst e1;subst e2;subst e3;refine ⟨A0,c0,rfl,⟨hc0.1,Nat.le_trans hc0.2 hc.2⟩,?_⟩;rcases Nat.eq_zero_or_pos l.length with h0|h0
 ·obtain rfl:l=[]:=List.eq_nil_of_length_eq_zero h0;exact RowsAt.nil _ _ _ _
 ·obtain ⟨g,xs,rfl,_,h3,h4,_⟩:=hp h0;exact ⟨xs,h3.same (fun _ _=>rfl) hF,fun _=>⟨g,0,rfl,hg g (by rw [hA];rfl),fun j u hu=>by rw [Nat.zero_add];exact h4 j u hu⟩⟩
theorem oS {w:World} {c:Ctx} {ρ:Nat→Value} {α:Type} {e:TypeId} {E:El α} {l:List α} {s:Mst} {a:Act} (hr:Rp c s ρ a w) {k:Nat} (hk:s.h k=some (.arr e E l)) {F:Nat→Prop} {v:Value} (hv:v=ρ k):(D.ocut k).rep w F ρ v:=by
 obtain ⟨A,cap,hA,hc,_⟩:=dF (hr.hp k _ hk);exact ⟨A,l.length,cap,cap,hA,⟨hc.1,Nat.le_refl _⟩,hv.trans hA⟩
structure Part (s:Mst) (q:Nat→Nat) (h2:Nat→Option Box):Prop where
 inj:∀k k',h2 k≠none→h2 k'≠none→q k=q k'→k=k'
 le:∀k b,h2 k=some b→∃b0,s.h (q k)=some b0∧BoxLe s q (fun j=>∀k,h2 k≠none→q k≠j) b0 b
section
variable {c:Ctx} {s:Mst} {ρ:Nat→Value} {a:Act} {w:World} {q:Nat→Nat} {h2:Nat→Option Box}
theorem Part.fz (p:Part s q h2):∀b,Fz c s.h ρ w b→Fz c h2 (fun k=>ρ (q k)) w b:=fun b ⟨f1,f2,f3⟩=>⟨f1,f2,fun k bx hk=>by obtain ⟨b0,h1,_⟩:=p.le k bx hk;exact f3 _ b0 h1⟩
theorem Part.d (p:Part s q h2) (hr:Rp c s ρ a w) {d0 d:D} {v:Value} (hle:DLe s q (fun j=>∀k,h2 k≠none→q k≠j) d0 d) (hd:d0.rep w (Fz c s.h ρ w) ρ v):d.rep w (Fz c h2 (fun k=>ρ (q k)) w) (fun k=>ρ (q k)) v:=by
 cases hle with
 | any=>trivial
 | ren=>exact ((D.rep_ren (ρ':=fun k=>ρ (q k)) fun _ _=>rfl).1 hd).mono (fun b hb=>⟨p.fz b hb,rfl⟩) fun _ _=>rfl
 | nil E=>exact ⟨none,0,hd,by simp [maxLen],RowsAt.nil _ _ _ _⟩
 | full E l=>obtain ⟨A,h1,h2,h3⟩:=hd;exact ⟨A,_,h1,⟨Nat.le_refl _,h2⟩,h3.mono p.fz⟩
 | froz e E l k hk hg =>
  exact xr (h:=s.h) hr hk (oS hr hk hd) p.fz fun g hkb=>⟨(hr.inb k _ g hk hkb).imp (c.hX g) id,hr.ltb hk hkb,fun k' bx hk' he=>by obtain ⟨b0,h1,_⟩:=p.le k' bx hk';exact hg k' (by rw [hk'];simp) (hr.dis _ _ b0 _ g h1 hk he hkb)⟩
 | frozc e E l k hk hg =>
  exact xr (h:=s.h) hr hk hd p.fz fun g hkb=>⟨(hr.inb k _ g hk hkb).imp (c.hX g) id,hr.ltb hk hkb,fun k' bx hk' he=>by obtain ⟨b0,h1,_⟩:=p.le k' bx hk';exact hg k' (by rw [hk'];simp) (hr.dis _ _ b0 _ g h1 hk he hkb)⟩
 | ocut e E l k hk=>exact oS (F:=Fz c h2 (fun k=>ρ (q k)) w) hr hk hd
theorem Part.l (p:Part s q h2) (hr:Rp c s ρ a w):∀{l0 l:List D} {cs:List Value},All2 (DLe s q (fun j=>∀k,h2 k≠none→q k≠j)) l0 l→All2 (D.rep w (Fz c s.h ρ w) ρ) l0 cs→All2 (D.rep w (Fz c h2 (fun k=>ρ (q k)) w) (fun k=>ρ (q k))) l cs
 | [],[],[],_,_=>trivial
 | _ :: _,_ :: _,_ :: _,h,k=>⟨p.d hr h.1 k.1,p.l hr h.2 k.2⟩
 | [],_ :: _,_,h,_=>h.elim
 | _ :: _,[],_,h,_=>h.elim
 | [],[],_ :: _,_,k=>k.elim
 | _ :: _,_ :: _,[],_,k=>k.elim
theorem Part.v0 (p:Part s q h2) (hr:Rp c s ρ a w) {d0 d:V0} {v:Value} (hle:V0Le s q (fun j=>∀k,h2 k≠none→q k≠j) d0 d) (hd:d0.rep w (Fz c s.h ρ w) ρ v):d.rep w (Fz c h2 (fun k=>ρ (q k)) w) (fun k=>ρ (q k)) v:=by
 cases hle with
 | one h=>exact p.d hr h hd
 | ag h=>obtain ⟨cs,e,h2⟩:=hd;exact ⟨cs,e,p.l hr h h2⟩
 | any=>trivial
theorem Part.l0 (p:Part s q h2) (hr:Rp c s ρ a w):∀{l0 l:List V0} {cs:List Value},All2 (V0Le s q (fun j=>∀k,h2 k≠none→q k≠j)) l0 l→All2 (V0.rep w (Fz c s.h ρ w) ρ) l0 cs→All2 (V0.rep w (Fz c h2 (fun k=>ρ (q k)) w) (fun k=>ρ (q k))) l cs
 | [],[],[],_,_=>trivial
 | _ :: _,_ :: _,_ :: _,h,k=>⟨p.v0 hr h.1 k.1,p.l0 hr h.2 k.2⟩
 | [],_ :: _,_,h,_=>h.elim
 | _ :: _,[],_,h,_=>h.elim
 | [],[],_ :: _,_,k=>k.elim
 | _ :: _,_ :: _,[],_,k=>k.elim
theorem Part.tv (p:Part s q h2) (hr:Rp c s ρ a w) {d0 d:TV} {v:Value} (hle:TVLe s q (fun j=>∀k,h2 k≠none→q k≠j) d0 d) (hd:d0.rep w (Fz c s.h ρ w) ρ v):d.rep w (Fz c h2 (fun k=>ρ (q k)) w) (fun k=>ρ (q k)) v:=by
 cases hle with
 | v h=>exact p.v0 hr h hd
 | tup h=>obtain ⟨vs,e,h3⟩:=hd;exact ⟨vs,e,p.l0 hr h h3⟩
 | any=>trivial
theorem Rp.weak {s':Mst} (hr:Rp c s ρ a w) (p:Part s q s'.h) (hq:∀k,k∈c.K→q k=k∧s'.f k=false) (hwf:s'.Wf)
  (ht:∀t,TVLe s q (fun j=>∀k,s'.h k≠none→q k≠j) (s.t t) (s'.t t)):Rp c s' (fun k=>ρ (q k)) a w where
 dfr:=hr.dfr
 siz:=hr.siz
 frm:=hr.frm
 tmp:=fun t=>p.tv hr (ht t) (hr.tmp t)
 hp:=fun k b hk=>by
  obtain ⟨b0,h1,h2⟩:=p.le k b hk;have h3:=hr.hp _ _ h1;cases h2 with
  | box t h=>obtain ⟨g,vs,e,hb,h4,h5⟩:=h3;exact ⟨g,vs,e,hb,p.l hr h h4,h5⟩
  | arr e E l=>obtain ⟨xs,h4,h5⟩:=h3;exact ⟨xs,h4,h5.same (fun _ _=>rfl) p.fz⟩
  | mp l=>exact h3
  | it k n l=>exact h3
 inb:=fun k b g hk hg=>by
  obtain ⟨b0,h1,_⟩:=p.le k b hk;exact hr.inb _ b0 g h1 hg
 dis:=fun k k' b b' g hk hk' hg hg'=>by
  obtain ⟨b0,h1,_⟩:=p.le k b hk;obtain ⟨b0',h1',_⟩:=p.le k' b' hk';exact p.inj k k' (by rw [hk];simp) (by rw [hk'];simp) (hr.dis _ _ b0 b0' g h1 h1' hg hg')
 ent:=fun k hk=>⟨by show ρ (q k)=c.ρ0 k;rw [(hq k hk).1];exact (hr.ent k hk).1,(hq k hk).2⟩
 wf:=hwf
end
def D.keys:D→List Nat
 | .own k | .slb k _ | .ptr k _ | .optr k _ _ _ | .ocut k | .osl k _ _ _ _=>[k]
 | .clo _ ks=>ks
 | _=>[]
def Hd (U:List Nat) (l:List Nat):Bool:=l.all (aD U)
def D.in_ (U:List Nat) (d:D):Bool:=Hd U d.keys
def V0.in_ (U:List Nat):V0→Bool
 | .one d=>d.in_ U
 | .ag l=>l.all (D.in_ U)
def TV.in_ (U:List Nat):TV→Bool
 | .v x=>x.in_ U
 | .tup l=>l.all (V0.in_ U)
def Box.in_ (U:List Nat):Box→Bool
 | .box _ cs=>cs.all (D.in_ U)
 | .arr ..=>true
 | .mp _=>true
 | .it k _ _=>aD U k
section
variable {U:List Nat} {k:Nat}
theorem D.in_has {d:D} (h:d.in_ U=true) (hk:d.has k=true):aD U k=true:=by
 cases d with
 | clo f ks =>
  have hk:ks.any (fun j=>j.beq k)=true:=hk;obtain ⟨j,hj,he⟩:=List.any_eq_true.1 hk;rw [←Nat.eq_of_beq_eq_true he];have h:ks.all (aD U)=true:=h;exact List.all_eq_true.1 h j hj
 | _=>simp [D.has] at hk <;> (subst hk;simpa [D.in_,D.keys,Hd] using h)
theorem V0.in_has {d:V0} (h:d.in_ U=true) (hk:d.has k=true):aD U k=true:=by
 cases d with
 | one d=>exact D.in_has (d:=d) h hk
 | ag l=>obtain ⟨d,h1,h2⟩:=List.any_eq_true.1 hk;exact D.in_has (List.all_eq_true.1 h d h1) h2
theorem TV.in_has {d:TV} (h:d.in_ U=true) (hk:d.has k=true):aD U k=true:=by
 cases d with
 | v d=>exact V0.in_has (d:=d) h hk
 | tup l=>obtain ⟨d,h1,h2⟩:=List.any_eq_true.1 hk;exact V0.in_has (List.all_eq_true.1 h d h1) h2
theorem Box.in_has {d:Box} (h:d.in_ U=true) (hk:d.has k=true):aD U k=true:=by
 cases d with
 | box t cs=>obtain ⟨d,h1,h2⟩:=List.any_eq_true.1 hk;exact D.in_has (List.all_eq_true.1 h d h1) h2
 | arr e E l=>simp [Box.has] at hk
 | mp l=>simp [Box.has] at hk
 | it j n l=>simp only [Box.has] at hk;rw [←Nat.eq_of_beq_eq_true hk];exact h
end
def df:List (Nat×Box)→Nat→Option Box
 | [],_=>none
 | (k,b) :: r,n=>bif k.beq n then some b else df r n
def aj {α:Type _} (l:List (Nat×α)):List Nat:=l.map (·.1)
def dG:List Nat→Bool
 | []=>true
 | k :: r=>!aD r k && dG r
def z6 (args:List V0) (hin:List (Nat×Box)) (us:List Nat) (res:TV) (hout:List (Nat×Option Box)):Bool :=
 args.all (V0.in_ (aj hin)) && hin.all (fun x=>x.2.in_ (aj hin)) && Hd (aj hout) (aj hin) && Hd (aj hin++us) (aj hout) && us.all (fun k=>!aD (aj hin) k && aD (aj hout) k) &&
 res.in_ (aj hin++us) && hout.all (fun x=>match x.2 with|none=>true|some b=>b.in_ (aj hin++us))
def dx (q:Nat→Nat) (l:List (Nat×Option Box)):List (Nat×Option Box):=l.map fun x=>(q x.1,x.2.map (Box.ren q))
structure FSpec (P:Program) (f:FuncId) (args:List V0) (hin:List (Nat×Box)) (us:List Nat) (res:TV) (hout:List (Nat×Option Box)):Prop where
 en:∀(vs:Array Value) (w:World),(callFunc f vs).run P w = .ok (.enter f vs) w
 ca:∀(q:Nat→Nat) (c:Ctx) (st:Mst) (ρ:Nat→Value) (a:Act) (w:World) (vs:List Value),Rp c st ρ a w→
  (∀k k',aD (aj hin++us) k=true→aD (aj hin++us) k'=true→q k=q k'→k=k')→
  All2 (fun d v=>(V0.ren q d).rep w (Fz c st.h ρ w) ρ v) args vs→
  (∀k b,df hin k=some b→st.h (q k)=some (b.ren q))→(∀k,aD us k=true→st.f (q k)=true)→
  Calls P f vs.toArray w fun e w'=>∃v,e = .returned v∧∀dst:Option Nat,(∀d,dst=some d→d<c.nt)→∃ρ',Rp c (st.app dst ⟨res.ren q,dx q hout,us.map q⟩) ρ' (a.put dst v) w'
inductive RV (P:Program) (s:Mst):ResultVar→V0→Prop
 | tmp {t:Nat} {x:V0} (h:s.t t = .v x):RV P s (.tmp t) x
 | row {t ty k n:Nat} {tb:TypeId} {cs:List D} (h:s.t t = .c (.ptr k 0)) (hk:s.h k=some (.box tb cs)) [I:TI P ty true n] (hn:cs.length=n):RV P s (.cell t ty) (.ag cs)
 | one {t ty k n:Nat} {tb:TypeId} {y:D} {cs:List D} (h:s.t t = .c (.ptr k 0)) (hk:s.h k=some (.box tb (y :: cs))) [I:TI P ty false n]:RV P s (.cell t ty) (.one y)
def FS:List V0→TV
 | [x]=>.v x
 | l=>.tup l
def sC (tmps:Array Value):ResultVar→Sem Value
 | .tmp t=>pure (tmps.getD t undef)
 | .cell a t=>do loadVar t (←asAddr (tmps.getD a undef))
theorem xt (fn:Func) (tmps:Array Value):results fn tmps=(do let vs ←fn.results.mapM (sC tmps);pure (if h:vs.size=1 then vs[0] else .tuple vs)):=by
 unfold results;congr 1
theorem rr {P:Program} {c:Ctx} {s:Mst} {ρ:Nat→Value} {a:Act} {w:World} (hr:Rp c s ρ a w) {r:ResultVar} {x:V0} (h:RV P s r x) :
  ∃v,(sC a.tmps r).run P w = .ok v w∧x.rep w (Fz c s.h ρ w) ρ v:=by
 cases h with
 | @tmp t x h=>exact ⟨_,rfl,by have:=hr.tmp t;rw [h] at this;exact this⟩
 | @row t ty k n tb cs h hk I hn =>
  have h1:=hr.tmp t;rw [h] at h1;obtain ⟨g,hg,hv⟩:=h1;obtain ⟨vs,hB,hA,h1c⟩:=hr.box hk hg;refine ⟨.agg vs.toArray,?_,vs,rfl,hA⟩;have h2:=lv (P:=P) (t:=ty) (g:=g) (p:=0) w vs (fun j u hu=>by rw [Nat.zero_add];exact hB.cellx j (by simpa using hu)) (by rw [←hA.length,hn]);simp only [Instr.loadAt,Instr.sureAddr,Sem.run_bind,Sem.run_pure,Result.andThen_ok] at h2;simp only [sC,hv,asAddr,Sem.run_bind,Sem.run_pure,Result.andThen_ok,h2]
 | @one t ty k n tb y cs h hk I =>
  have h1:=hr.tmp t;rw [h] at h1;obtain ⟨g,hg,hv⟩:=h1;obtain ⟨vs,hB,hA,h1c⟩:=hr.box hk hg;obtain ⟨u,hu,hrep⟩:=hA.get (i:=0) (a:=y) rfl;refine ⟨u,?_,hrep⟩;have h2:=lw (P:=P) (t:=ty) (g:=g) (p:=0) w u (hB.cellx 0 (by simpa using hu));simp only [Instr.loadAt,Instr.sureAddr,Sem.run_bind,Sem.run_pure,Result.andThen_ok] at h2;simp only [sC,hv,asAddr,Sem.run_bind,Sem.run_pure,Result.andThen_ok,h2]
theorem vt {P:Program} {c:Ctx} {s:Mst} {ρ:Nat→Value} {a:Act} {w:World} (hr:Rp c s ρ a w) {fn:Func} {xs:List V0} (h:All2 (RV P s) fn.results.toList xs):∃v,(results fn a.tmps).run P w = .ok v w∧(FS xs).rep w (Fz c s.h ρ w) ρ v:=by
 have key:∀(rs:List ResultVar) (xs:List V0),All2 (RV P s) rs xs→∃vs:List Value,(rs.mapM (sC a.tmps)).run P w = .ok vs w∧All2 (V0.rep w (Fz c s.h ρ w) ρ) xs vs:=by
  intro rs;induction rs with
  | nil=>intro xs h;cases xs with
   | nil=>exact ⟨[],rfl,trivial⟩
   | cons=>exact h.elim
  | cons r rs ih =>
   intro xs h;cases xs with
   | nil=>exact h.elim
   | cons x xs =>
    obtain ⟨v,h1,h2⟩:=rr hr h.1;obtain ⟨vs,h3,h4⟩:=ih xs h.2;refine ⟨v :: vs,?_,h2,h4⟩;simp only [List.mapM_cons,Sem.run_bind,h1,Result.andThen_ok,h3,Sem.run_pure]
 obtain ⟨vs,h1,h2⟩:=key _ _ h;have hm:(fn.results.mapM (sC a.tmps)).run P w = .ok vs.toArray w:=by
  rw [Array.mapM_eq_mapM_toList,map_eq_pure_bind];simp only [Sem.run_bind,h1,Result.andThen_ok,Sem.run_pure]
 have hl:=h2.length;rw [xt];simp only [Sem.run_bind,hm,Result.andThen_ok,Sem.run_pure]
 match xs,vs,h2 with
 | [x],[v],h2=>exact ⟨v,rfl,h2.1⟩
 | [],[],_=>exact ⟨_,rfl,[],rfl,trivial⟩
 | x :: y :: xs,v :: u :: vs,h2=>exact ⟨_,rfl,v :: u :: vs,by simp,h2⟩
def IQ (args:List V0) (hin:List (Nat×Box)):Mst :=
 { t:=fun i=>match args[i]? with|some x=>.v x|none=>.c .any,h:=df hin,f:=fun k=>!aD (aj hin) k }
def uR (P:Program) (fn:Func) (hin:List (Nat×Box)) (res:TV) (hout:List (Nat×Option Box)) (e:Exit) (s:Mst):Prop :=
 (e = .normal∨e = .ret)∧∃xs p,All2 (RV P s) fn.results.toList xs∧(∀k,aD (aj hin) k=true→p k=k)∧Part s p (hput hout fun _=>none)∧TVLe s p (fun j=>∀k,hput hout (fun _=>none) k≠none→p k≠j) (FS xs) res
section
variable {P:Program}
theorem ba:∀{l:List Nat} {k:Nat},aD l k=true↔k∈l
 | [],k=>by simp [aD]
 | x :: l,k=>by
  simp only [aD,Bool.or_eq_true,List.mem_cons,ba (l:=l)];constructor
  ·rintro (h|h)
   ·exact .inl (Nat.eq_of_beq_eq_true h).symm
   ·exact .inr h
  ·rintro (rfl|h)
   ·exact .inl (Nat.beq_refl k)
   ·exact .inr h
theorem cf {hin:List (Nat×Box)} {k:Nat} {b:Box} (h:df hin k=some b):aD (aj hin) k=true∧(k,b)∈hin:=by
 induction hin with
 | nil=>cases h
 | cons x r ih =>
  obtain ⟨j,c⟩:=x;simp only [df] at h;cases hj:j.beq k with
  | true =>
   rw [hj] at h;injection h with h;subst h;have:=Nat.eq_of_beq_eq_true hj;subst this;exact ⟨by simp [aj,aD],by simp⟩
  | false =>
   rw [hj] at h;obtain ⟨h1,h2⟩:=ih h;exact ⟨by simp only [aj,List.map_cons,aD,Bool.or_eq_true];exact .inr h1,by simp [h2]⟩
theorem z7 {hin:List (Nat×Box)} {k:Nat} (h:aD (aj hin) k=true):∃b,df hin k=some b:=by
 induction hin with
 | nil=>simp [aj,aD] at h
 | cons x r ih =>
  obtain ⟨j,c⟩:=x;simp only [df];cases hj:j.beq k with
  | true=>exact ⟨c,rfl⟩
  | false =>
   simp only [aj,List.map_cons,aD,hj,Bool.false_or] at h;exact ih h
theorem gO {l:List (Nat×Option Box)} {k:Nat}:ax l k=aD (aj l) k:=by
 induction l with
 | nil=>rfl
 | cons x r ih=>simp only [ax,aj,List.map_cons,aD,ih]
theorem lx {l:List (Nat×Option Box)} {k:Nat} {b:Box} (h:hput l (fun _=>none) k=some b):(k,some b)∈l:=by
 induction l with
 | nil=>cases h
 | cons x r ih =>
  obtain ⟨j,c⟩:=x;simp only [hput] at h;cases hj:j.beq k with
  | true =>
   rw [hj] at h;have:=Nat.eq_of_beq_eq_true hj;subst this;simp only [cond_true] at h;subst h;simp
  | false=>rw [hj] at h;simp [ih h]
theorem mw {q:Nat→Nat} {l:List (Nat×Option Box)} {n:Nat}:ax (dx q l) n=true↔∃k,ax l k=true∧q k=n:=by
 induction l with
 | nil=>simp [dx,ax]
 | cons x r ih =>
  simp only [dx,List.map_cons,ax,Bool.or_eq_true];constructor
  ·rintro (h|h)
   ·exact ⟨x.1,.inl (Nat.beq_refl _),Nat.eq_of_beq_eq_true h⟩
   ·obtain ⟨k,h1,h2⟩:=ih.1 h;exact ⟨k,.inr h1,h2⟩
  ·rintro ⟨k,h1|h1,rfl⟩
   ·rw [Nat.eq_of_beq_eq_true h1];exact .inl (Nat.beq_refl _)
   ·exact .inr (ih.2 ⟨k,h1,rfl⟩)
theorem sD {q:Nat→Nat} {h:Nat→Option Box}:∀{l:List (Nat×Option Box)} {k:Nat},(∀k',ax l k'=true→q k'=q k→k'=k)→ax l k=true→hput (dx q l) h (q k)=(hput l (fun _=>none) k).map (Box.ren q)
 | [],_,_,e=>by simp [ax] at e
 | (j,c) :: r,k,hinj,e=>by
  simp only [dx,List.map_cons,hput];cases hj:j.beq k with
  | true =>
   have:=Nat.eq_of_beq_eq_true hj;subst this;simp
  | false =>
   have:(q j).beq (q k)=false:=by
    cases h9:(q j).beq (q k) with
    | false=>rfl
    | true =>
     have:=hinj j (by simp [ax]) (Nat.eq_of_beq_eq_true h9);subst this;rw [Nat.beq_refl] at hj;cases hj
   rw [this];simp only [cond_false];simp only [ax,hj,Bool.false_or] at e;exact sD (l:=r) (fun k' h1 h2=>hinj k' (by simp only [ax,h1,Bool.or_true]) h2) e
theorem ja {U l:List Nat} (h:Hd U l=true) {k:Nat} (hk:aD l k=true):aD U k=true:=im h k hk
theorem D.has_ren {q:Nat→Nat} {d:D} {n:Nat} (h:(d.ren q).has n=true):∃k,d.has k=true∧q k=n:=by
 cases d with
 | clo f ks =>
  have h:(ks.map q).any (fun j=>j.beq n)=true:=h;obtain ⟨j,hj,he⟩:=List.any_eq_true.1 h;obtain ⟨k,hk,rfl⟩:=List.mem_map.1 hj;exact ⟨k,(List.any_eq_true.2 ⟨k,hk,Nat.beq_refl k⟩:ks.any (fun j=>j.beq k)=true),Nat.eq_of_beq_eq_true he⟩
 | _=>simp [D.ren,D.has] at h <;> exact ⟨_,by simp [D.has],h⟩
theorem D.has_renL {q:Nat→Nat} {l:List D} {n:Nat} (h:(l.map (D.ren q)).any (D.has n)=true):∃k,l.any (D.has k)=true∧q k=n:=by
 obtain ⟨d,h1,h2⟩:=List.any_eq_true.1 h;obtain ⟨d0,h3,rfl⟩:=List.mem_map.1 h1;obtain ⟨k,h4,h5⟩:=D.has_ren h2;exact ⟨k,List.any_eq_true.2 ⟨d0,h3,h4⟩,h5⟩
theorem V0.has_ren {q:Nat→Nat} {d:V0} {n:Nat} (h:(d.ren q).has n=true):∃k,d.has k=true∧q k=n:=by
 cases d with
 | one d=>exact D.has_ren (d:=d) h
 | ag l=>exact D.has_renL (l:=l) h
theorem TV.has_ren {q:Nat→Nat} {d:TV} {n:Nat} (h:(d.ren q).has n=true):∃k,d.has k=true∧q k=n:=by
 cases d with
 | v d=>exact V0.has_ren (d:=d) h
 | tup l =>
  obtain ⟨d,h1,h2⟩:=List.any_eq_true.1 h;obtain ⟨d0,h3,rfl⟩:=List.mem_map.1 h1;obtain ⟨k,h4,h5⟩:=V0.has_ren h2;exact ⟨k,List.any_eq_true.2 ⟨d0,h3,h4⟩,h5⟩
theorem Box.has_ren {q:Nat→Nat} {d:Box} {n:Nat} (h:(d.ren q).has n=true):∃k,d.has k=true∧q k=n:=by
 cases d with
 | box t l=>exact D.has_renL (l:=l) h
 | arr e E l=>simp [Box.ren,Box.has] at h
 | mp l=>simp [Box.ren,Box.has] at h
 | it k m l=>exact ⟨k,by simp [Box.has],Nat.eq_of_beq_eq_true h⟩
theorem jb {f:FuncId} {fn:Func} {code:Code} {args:List V0} {hin:List (Nat×Box)} {us:List Nat} {res:TV} {hout:List (Nat×Option Box)} (hf:P.funcs[f]? = some fn) (hb:fn.body=some code) (hen:∀(vs:Array Value) (w:World),(callFunc f vs).run P w = .ok (.enter f vs) w)
  (hok:z6 args hin us res hout=true) (hnt:args.length≤fn.ntmps) (h:AW P fn.ntmps (aj hin) code (uR P fn hin res hout) (IQ args hin)):FSpec P f args hin us res hout:=by
 refine ⟨hen,fun q c st ρ a w vs hr hinj hargs hhin hus=>?_⟩;simp only [z6,Bool.and_eq_true] at hok;obtain ⟨⟨⟨⟨⟨⟨o1,o2⟩,o3⟩,o4⟩,o5⟩,o6⟩,o7⟩:=hok;have inK:∀{k},aD (aj hin) k=true→aD (aj hin++us) k=true:=fun h=>by rw [jA,h];rfl
 have inU:∀{k},aD us k=true→aD (aj hin++us) k=true:=fun h=>by rw [jA,h,Bool.or_true]
 have uK:∀{k},aD us k=true→aD (aj hin) k=false:=fun h=>by have:=im o5 _ h;simp at this;exact this.1
 have hXS:∀b,(∃k bx,aD (aj hin) k=true∧st.h (q k)=some bx∧kb (ρ (q k))=some b)→b<w.heap.size:=fun b ⟨k,bx,_,h2,h3⟩=>hr.ltb h2 h3
 let c':Ctx:={ w0:=w,S:=fun b=>Fz c st.h ρ w b∨∃k bx,aD (aj hin) k=true∧st.h (q k)=some bx∧kb (ρ (q k))=some b,X:=fun b=>∃k bx,aD (aj hin) k=true∧st.h (q k)=some bx∧kb (ρ (q k))=some b,nt:=fn.ntmps,K:=aj hin,ρ0:=fun k=>ρ (q k),hS:=fun b hb=>hb.elim (fun h=>h.2.1) (hXS b),hX:=fun b hb=>.inr hb,hpin:=c.hpin.sub (fun b hb hx=>hr.frm.keep b hb hx) fun b hb ⟨k,bx,_,h2,h3⟩=>(hr.inb _ bx b h2 h3).resolve_right (Nat.not_le.2 hb) }
 have hF0:∀b,Fz c st.h ρ w b→Fz c' (df hin) (fun k=>ρ (q k)) w b∧w.heap[b]? = w.heap[b]?:=fun b hb=>⟨⟨.inl (.inl hb),hb.2.1,fun k bx hk=>hb.2.2 (q k) _ (hhin k bx hk)⟩,rfl⟩;have hr0:Rp c' (IQ args hin) (fun k=>ρ (q k)) { tmps:=vs.toArray++Array.replicate (fn.ntmps-vs.toArray.size) undef,defers:=[] } w:=by
  have hlen:=hargs.length;refine ⟨rfl,?_,Frx.refl _ _,fun i=>?_,fun k b hk=>?_,fun k b g hk hg=>?_,fun k k' b b' g hk hk' hg hg'=>?_,fun k hk=>⟨rfl,?_⟩,⟨fun k hk=>?_,fun k i hk=>?_,fun k k' b hk hb2=>?_⟩⟩
  ·show (vs.toArray++Array.replicate (fn.ntmps-vs.toArray.size) undef).size=fn.ntmps;simp;omega
  ·show TV.rep _ _ _ (match args[i]? with|some x=>.v x|none=>.c .any) _;cases hi:args[i]? with
   | none=>trivial
   | some x =>
    obtain ⟨v,hv,hx⟩:=hargs.get hi;have hil:i<vs.length:=(List.getElem?_eq_some_iff.1 hv).1;have e1:(vs.toArray++Array.replicate (fn.ntmps-vs.toArray.size) undef).getD i undef=v:=by
     rw [Array.getD_eq_getD_getElem?,Array.getElem?_append_left (by simpa using hil)];simp [hv]
    show V0.rep _ _ _ x ((vs.toArray++Array.replicate (fn.ntmps-vs.toArray.size) undef).getD i undef);rw [e1];exact ((V0.rep_ren (ρ':=fun k=>ρ (q k)) fun _ _=>rfl).1 hx).mono hF0 fun _ _=>rfl
  ·have h1:=hr.hp _ _ (hhin k b hk);exact ((Box.rep_ren (ρ':=fun k=>ρ (q k)) fun _ _=>rfl).1 h1).mono (fun _ _=>rfl) hF0 fun _ _=>rfl
  ·exact .inl ⟨k,_,(cf hk).1,hhin k b hk,hg⟩
  ·exact hinj k k' (inK (cf hk).1) (inK (cf hk').1) (hr.dis _ _ _ _ g (hhin k b hk) (hhin k' b' hk') hg hg')
  ·show (!aD (aj hin) k)=false;rw [ba.2 hk];rfl
  ·have hk:(!aD (aj hin) k)=true:=hk;cases h9:df hin k with
   | none=>exact h9
   | some b=>rw [(cf h9).1] at hk;cases hk
  ·have hk:(!aD (aj hin) k)=true:=hk;show TV.has k (match args[i]? with|some x=>.v x|none=>.c .any)=false;cases hi:args[i]? with
   | none=>rfl
   | some x =>
    cases h9:TV.has k (.v x) with
    | false=>rfl
    | true=>rw [V0.in_has (List.all_eq_true.1 o1 x (List.mem_of_getElem? hi)) h9] at hk;cases hk
  ·have hk:(!aD (aj hin) k)=true:=hk;cases h9:Box.has k b with
   | false=>rfl
   | true=>rw [Box.in_has (List.all_eq_true.1 o2 (k',b) (cf hb2).2) h9] at hk;cases hk
 refine calls_of_wp hf hb (wp_mono (h c' _ _ w rfl rfl hr0) ?_);rintro e a1 w1 ⟨s1,ρ1,⟨he,xs,p,hxs,hpK,hpart,hle⟩,hr1⟩;obtain ⟨v,hv,hvr⟩:=vt hr1 hxs;have hres:=hpart.tv hr1 hle hvr
 let s2:Mst:={ t:=fun _=>.c .any,h:=hput hout fun _=>none,f:=fun k=>!aD (aj hin++us) k }
 have hin2:∀k b,hput hout (fun _=>none) k=some b→aD (aj hin++us) k=true∧b.in_ (aj hin++us)=true:=fun k b hk=>by
  have hm:=lx hk;have h1:=List.all_eq_true.1 o7 _ hm;refine ⟨ja o4 ?_,h1⟩;rw [ba];exact List.mem_map.2 ⟨_,hm,rfl⟩
 have hr2:Rp c' s2 (fun k=>ρ1 (p k)) a1 w1:=hr1.weak (s':=s2) hpart (fun k hk=>⟨hpK k (ba.2 hk),by show (!aD (aj hin++us) k)=false;rw [inK (ba.2 hk)];rfl⟩)
  ⟨(fun k hk=>by
   have hk:(!aD (aj hin++us) k)=true:=hk;cases h9:hput hout (fun _=>none) k with
   | none=>exact h9
   | some b=>rw [(hin2 k b h9).1] at hk;cases hk),fun _ _ _=>rfl,(fun k k' b hk hb2=>by
   have hk:(!aD (aj hin++us) k)=true:=hk;cases h9:Box.has k b with
   | false=>rfl
   | true=>rw [Box.in_has (hin2 k' b hb2).2 h9] at hk;cases hk)⟩ fun t=>.any _
 have hgo:a1.defers=[]∧∃v,(results fn a1.tmps).run P w1 = .ok v w1∧(fun e w'=>∃v,e=Ending.returned v∧∀dst:Option Nat,(∀d,dst=some d→d<c.nt)→∃ρ',Rp c (st.app dst ⟨res.ren q,dx q hout,us.map q⟩) ρ' (a.put dst v) w') (.returned v) w1:=by
  refine ⟨hr1.dfr,v,hv,v,rfl,fun dst hdst=>?_⟩
  let ρ':Nat→Value:=fun n=>match us.find? (fun k=>(q k).beq n) with|some k=>ρ1 (p k)|none=>ρ n
  have hρu:∀k,aD us k=true→ρ' (q k)=ρ1 (p k):=fun k hk=>by
   show (match us.find? (fun j=>(q j).beq (q k)) with|some k=>ρ1 (p k)|none=>ρ (q k))=_;cases h9:us.find? (fun j=>(q j).beq (q k)) with
   | none =>
    have:=List.find?_eq_none.1 h9 k (ba.1 hk);simp at this
   | some j =>
    have h10:=List.find?_some (p:=fun j=>(q j).beq (q k)) h9;have h11:=List.mem_of_find?_eq_some h9;have:j=k:=hinj j k (inU (ba.2 h11)) (inU hk) (Nat.eq_of_beq_eq_true h10);rw [this]
  have hρn:∀n,(∀k,aD us k=true→q k≠n)→ρ' n=ρ n:=fun n hn=>by
   show (match us.find? (fun j=>(q j).beq n) with|some k=>ρ1 (p k)|none=>ρ n)=_;cases h9:us.find? (fun j=>(q j).beq n) with
   | none=>rfl
   | some j=>exact absurd (Nat.eq_of_beq_eq_true (List.find?_some (p:=fun j=>(q j).beq n) h9)) (hn j (ba.2 (List.mem_of_find?_eq_some h9)))
  have hρK:∀k,aD (aj hin++us) k=true→ρ' (q k)=ρ1 (p k):=fun k hk=>by
   rw [jA,Bool.or_eq_true] at hk;rcases hk with hk|hk
   ·rw [hρn (q k) fun j hj he=>?_,hpK k hk,(hr1.ent k (ba.1 hk)).1];have:=hinj j k (inU hj) (inK hk) he;subst this;rw [uK hj] at hk;cases hk
   ·exact hρu k hk
  have hK:∀n,ax (dx q hout) n=true→∃k,aD (aj hin++us) k=true∧ax hout k=true∧q k=n:=fun n hn=>by
   obtain ⟨k,h1,h2⟩:=mw.1 hn;exact ⟨k,ja o4 (by rw [←gO];exact h1),h1,h2⟩
  have hput':∀k,aD (aj hin++us) k=true→ax hout k=true→hput (dx q hout) st.h (q k)=(hput hout (fun _=>none) k).map (Box.ren q):=fun k hk hk2=>by
   refine sD (fun k' h1 h2=>?_) hk2;exact hinj k' k (ja o4 (by rw [←gO];exact h1)) hk h2
  have hsome:∀n bx,ax (dx q hout) n=true→hput (dx q hout) st.h n=some bx→∃k b,aD (aj hin++us) k=true∧q k=n∧hput hout (fun _=>none) k=some b∧b.ren q=bx:=fun n bx hn hb2=>by
   obtain ⟨k,h1,h2,rfl⟩:=hK n hn;rw [hput' k h1 h2] at hb2;cases h9:hput hout (fun _=>none) k with
   | none=>rw [h9] at hb2;cases hb2
   | some b=>rw [h9] at hb2;exact ⟨k,b,h1,rfl,h9,Option.some.inj hb2⟩
  have hinKey:∀k,aD (aj hin) k=true→ax (dx q hout) (q k)=true:=fun k hk=>mw.2 ⟨k,by rw [gO];exact ja o3 hk,rfl⟩;have hnonf:∀k,aD (aj hin) k=true→st.f (q k)=false:=fun k hk=>by obtain ⟨b,h1⟩:=z7 hk;exact hr.nfh (hhin k b h1)
  have hFz:∀b,Fz c' s2.h (fun k=>ρ1 (p k)) w1 b→Fz c (hput (dx q hout) st.h) ρ' w1 b∧w1.heap[b]? = w1.heap[b]?:=fun b ⟨f1,f2,f3⟩=>by
   refine ⟨⟨?_,f2,fun n bx hn he=>?_⟩,rfl⟩
   ·rcases f1 with (f1|⟨k,bx,_,h2,h3⟩)|f1
    ·exact f1.1
    ·rcases hr.inb _ bx b h2 h3 with h|h
     ·exact .inl (c.hX b h)
     ·exact .inr h
    ·exact .inr (Nat.le_trans hr.frm.size f1)
   ·cases h9:ax (dx q hout) n with
    | true =>
     obtain ⟨k,b2,h1,rfl,h3,_⟩:=hsome n bx h9 hn;rw [hρK k h1] at he;exact f3 k b2 h3 he
    | false =>
     rw [bD h9] at hn;have hnu:∀k,aD us k=true→q k≠n:=fun k hk e=>by have:=hus k hk;rw [e,hr.nfh hn] at this;cases this
     rw [hρn n hnu] at he;rcases f1 with (f1|⟨k,b2,h1,h2,h3⟩)|f1
     ·exact f1.2.2 n bx hn he
     ·have:=hr.dis _ _ _ _ b h2 hn h3 he;subst this;rw [hinKey k h1] at h9;cases h9
     ·have:=hr.ltb hn he;have f1:w.heap.size≤b:=f1;omega
  have hus':∀n,aD (us.map q) n=true↔∃k,aD us k=true∧q k=n:=fun n=>by
   rw [ba,List.mem_map];exact ⟨fun ⟨k,h1,h2⟩=>⟨k,ba.2 h1,h2⟩,fun ⟨k,h1,h2⟩=>⟨k,ba.1 h1,h2⟩⟩
  have hkeyin:∀{d:TV},d.in_ (aj hin++us)=true→∀n,(d.ren q).has n=true→∃k,aD (aj hin++us) k=true∧q k=n:=fun h n hn=>by
   obtain ⟨k,h1,h2⟩:=TV.has_ren hn;exact ⟨k,TV.in_has h h1,h2⟩
  have hkeyinB:∀{d:Box},d.in_ (aj hin++us)=true→∀n,(d.ren q).has n=true→∃k,aD (aj hin++us) k=true∧q k=n:=fun h n hn=>by
   obtain ⟨k,h1,h2⟩:=Box.has_ren hn;exact ⟨k,Box.in_has h h1,h2⟩
  have hcls:∀k,aD (aj hin++us) k=true→aD (us.map q) (q k)=true∨st.f (q k)=false:=fun k hk=>by
   rw [jA,Bool.or_eq_true] at hk;rcases hk with hk|hk
   ·exact .inr (hnonf k hk)
   ·exact .inl ((hus' _).2 ⟨k,hk,rfl⟩)
  refine ⟨ρ',hr.app (e:=⟨res.ren q,dx q hout,us.map q⟩) hdst ?_ ?_ ?_ ?_ ?_ ?_ ?_ ?_ ?_ ?_⟩
  ·intro n hn;obtain ⟨k,h1,rfl⟩:=(hus' n).1 hn;refine ⟨hus k h1,mw.2 ⟨k,?_,rfl⟩⟩;have:=im o5 k h1;simp at this;rw [gO];exact this.2
  ·intro n hn;refine hρn n fun k hk e=>?_;have:=(hus' n).2 ⟨k,hk,e⟩;rw [this] at hn;cases hn
  ·intro n hn;obtain ⟨k,h1,_,rfl⟩:=hK n hn;exact hcls k h1
  ·refine ⟨hr1.frm.os,hr1.frm.tape,hr1.frm.output,hr1.frm.size,fun b hlt hn=>hr1.frm.keep b hlt fun ⟨k,bx,h1,h2,h3⟩=>hn ⟨q k,bx,hinKey k h1,h2,h3⟩⟩
  ·intro n bx g hn hb2 hg;obtain ⟨k,b,h1,rfl,h3,_⟩:=hsome n bx hn hb2;rw [hρK k h1] at hg;refine ⟨hr2.ltb (k:=k) h3 hg,?_⟩;rcases hr2.inb k b g h3 hg with ⟨k0,b0,h4,h5,h6⟩|h4
   ·exact .inr ⟨q k0,b0,hinKey k0 h4,h5,h6⟩
   ·exact .inl h4
  ·intro n n' b b' g hn hn' hb2 hb2' hg hg';obtain ⟨k,x,h1,rfl,h3,_⟩:=hsome n b hn hb2;obtain ⟨k',x',h1',rfl,h3',_⟩:=hsome n' b' hn' hb2';rw [hρK k h1] at hg;rw [hρK k' h1'] at hg';rw [hr2.dis k k' x x' g h3 h3' hg hg']
  ·intro n hn;obtain ⟨k,h1,rfl⟩:=hkeyin o6 n hn;exact hcls k h1
  ·intro n n' bx hn' hb2 hn;obtain ⟨k,b,h1,rfl,h3,rfl⟩:=hsome n' bx hn' hb2;obtain ⟨k2,h4,rfl⟩:=hkeyinB (hin2 k b h3).2 n hn;exact hcls k2 h4
  ·intro n bx hn hb2;obtain ⟨k,b,h1,rfl,h3,rfl⟩:=hsome n bx hn hb2;rw [hρK k h1];refine ((Box.rep_ren (ρ':=fun k=>ρ1 (p k)) fun j hj=>?_).2 (hr2.hp k b h3)).mono (fun _ _=>rfl) hFz fun _ _=>rfl;exact (hρK j (Box.in_has (hin2 k b h3).2 hj)).symm
  ·refine ((TV.rep_ren (ρ':=fun k=>ρ1 (p k)) fun j hj=>?_).2 hres).mono hFz fun _ _=>rfl;exact (hρK j (TV.in_has o6 hj)).symm
 rcases he with rfl|rfl <;> exact hgo
end
def ly (K:Mst→Prop) (Q:Exit→Mst→Prop):Exit→Mst→Prop
 | .normal,s=>K s
 | e,s=>Q e s
def eD (id:Nat) (Q:Exit→Mst→Prop):Exit→Mst→Prop
 | .exit i,s=>bif i.beq id then Q .normal s else Q (.exit i) s
 | e,s=>Q e s
section
variable {P:Program} {nt:Nat} {Ks:List Nat} {Q:Exit→Mst→Prop} {s:Mst}
theorem oT {x y:Code} (h:AW P nt Ks x (ly (AW P nt Ks y Q) Q) s):AW P nt Ks (.seq x y) Q s:=by
 intro c ρ a w hc hK hr;refine wp_seq (wp_mono (h c ρ a w hc hK hr) ?_);rintro e a' w' ⟨s',ρ',hq,hr'⟩;cases e with
 | normal=>exact hq c ρ' a' w' hc hK hr'
 | _=>exact ⟨s',ρ',hq,hr'⟩
theorem DU (h:Q .normal s):AW P nt Ks .skip Q s:=fun _ ρ _ _ _ _ hr=>wp_skip ⟨s,ρ,h,hr⟩
theorem BK {l:Nat} (h:Q .normal s):AW P nt Ks (.label l) Q s:=fun _ ρ _ _ _ _ hr=>wp_label ⟨s,ρ,h,hr⟩
theorem DV {i:Nat} (h:Q (.exit i) s):AW P nt Ks (.exit i) Q s:=fun _ ρ _ _ _ _ hr=>wp_exit ⟨s,ρ,h,hr⟩
theorem FT (h:Q .ret s):AW P nt Ks .ret Q s:=fun _ ρ _ _ _ _ hr=>wp_ret ⟨s,ρ,h,hr⟩
theorem BL {x:Code} (h:AW P nt Ks x (fun e s'=>(∀l,e≠.goto l)∧Q e s') s):AW P nt Ks (.scope x) Q s:=by
 intro c ρ a w hc hK hr;refine wp_scope_straight (wp_mono (h c ρ a w hc hK hr) ?_);rintro e a' w' ⟨s',ρ',⟨h1,h2⟩,hr'⟩;cases e with
 | goto l=>exact absurd rfl (h1 l)
 | _=>exact ⟨s',ρ',h2,hr'⟩
theorem DX {x:Operand} {t e:Code} {b:Bool} (hx:s.ev x = .b b) (h1:b=true→AW P nt Ks t Q s) (h2:b=false→AW P nt Ks e Q s):AW P nt Ks (.cond x t e) Q s:=by
 intro c ρ a w hc hK hr;have hv:a.eval x = .bool b:=by have:=hr.ev x;rwa [hx] at this
 exact wp_cond_split hv (fun h=>h1 h c ρ a w hc hK hr) fun h=>h2 h c ρ a w hc hK hr
theorem BM {id:Nat} {x:Code} (h:AW P nt Ks x (eD id Q) s):AW P nt Ks (.block id x) Q s:=by
 intro c ρ a w hc hK hr;refine wp_block (wp_mono (h c ρ a w hc hK hr) ?_);rintro e a' w' ⟨s',ρ',hq,hr'⟩;cases e with
 | exit i =>
  simp only [eD] at hq;cases hb:i.beq id with
  | true =>
   rw [hb] at hq;simp only [Exit.inBlock,Nat.eq_of_beq_eq_true hb,if_true];exact ⟨s',ρ',hq,hr'⟩
  | false =>
   rw [hb] at hq;have hi:¬i=id:=fun e=>by rw [e,Nat.beq_refl] at hb;cases hb
   simp only [Exit.inBlock,hi,if_false];exact ⟨s',ρ',hq,hr'⟩
 | _=>exact ⟨s',ρ',hq,hr'⟩
def Le (nt:Nat) (Ks:List Nat) (s s':Mst):Prop:=∀(c:Ctx) (ρ:Nat→Value) (a:Act) (w:World),c.nt=nt→c.K=Ks→Rp c s ρ a w→∃ρ',Rp c s' ρ' a w
theorem ak {ι:Type _} {x:Code} (p:ι→Prop) (I:ι→Mst) (μ:ι→Nat) (i0:ι) (h0:p i0) (h1:Le nt Ks s (I i0))
  (h:∀i,p i→AW P nt Ks x (ly (fun s'=>∃j,p j∧μ j<μ i∧Le nt Ks s' (I j)) Q) (I i)):AW P nt Ks (.loop x) Q s:=by
 intro c ρ a w hc hK hr;obtain ⟨ρ0,hr0⟩:=h1 c ρ a w hc hK hr;refine wp_loop_ghost (fun n a w=>∃i ρ,μ i=n∧p i∧Rp c (I i) ρ a w) (μ i0) ⟨i0,ρ0,rfl,h0,hr0⟩ ?_;rintro n a w ⟨i,ρ,rfl,hp,hr⟩;refine wp_mono (h i hp c ρ a w hc hK hr) ?_;rintro e a' w' ⟨s',ρ',hq,hr'⟩;cases e with
 | normal =>
  obtain ⟨j,hj,hlt,hle⟩:=hq;obtain ⟨ρ2,hr2⟩:=hle c ρ' a' w' hc hK hr';exact ⟨μ j,hlt,j,ρ2,rfl,hj,hr2⟩
 | _=>exact ⟨s',ρ',hq,hr'⟩
theorem bd {x:Code} {φ:Prop} (hf:∀(c:Ctx) (ρ:Nat→Value) (a:Act) (w:World),Rp c s ρ a w→φ) (h:φ→AW P nt Ks x Q s):AW P nt Ks x Q s:=fun c ρ a w hc hK hr=>h (hf c ρ a w hr) c ρ a w hc hK hr
end
def xu:List (Nat×TV)→Nat→TV
 | [],_=>.c .any
 | (k,d) :: r,n=>bif k.beq n then d else xu r n
def cq (U:List Nat) (ts:List (Nat×TV)) (hs:List (Nat×Box)):Mst:={ t:=xu ts,h:=df hs,f:=fun k=>!aD U k }
def DY (s:Mst) (q:Nat→Nat) (g:Nat→Prop):List (Nat×TV)→Prop
 | []=>True
 | (t,d) :: r=>TVLe s q g (s.t t) d∧DY s q g r
def DZ (s:Mst) (q:Nat→Nat) (g:Nat→Prop):List (Nat×Box)→Prop
 | []=>True
 | (k,b) :: r=>(∃b0,s.h (q k)=some b0∧BoxLe s q g b0 b)∧DZ s q g r
def nW (s:Mst) (q:Nat→Nat) (g:Nat→Prop):List (Nat×Option Box)→Prop
 | []=>True
 | (_,none) :: r=>nW s q g r
 | (k,some b) :: r=>(∃b0,s.h (q k)=some b0∧BoxLe s q g b0 b)∧nW s q g r
theorem vu {s:Mst} {q:Nat→Nat} {g:Nat→Prop}:∀{l:List (Nat×TV)},DY s q g l→∀t d,(t,d)∈l→TVLe s q g (s.t t) d
 | (a,b) :: l,h,t,d,hx=>by
  rcases List.mem_cons.1 hx with e|hx
  ·injection e with e1 e2;subst e1;subst e2;exact h.1
  ·exact vu h.2 t d hx
theorem vv {s:Mst} {q:Nat→Nat} {g:Nat→Prop}:∀{l:List (Nat×Box)},DZ s q g l→∀k b,(k,b)∈l→∃b0,s.h (q k)=some b0∧BoxLe s q g b0 b
 | (a,b) :: l,h,t,d,hx=>by
  rcases List.mem_cons.1 hx with e|hx
  ·injection e with e1 e2;subst e1;subst e2;exact h.1
  ·exact vv h.2 t d hx
theorem oU {s:Mst} {q:Nat→Nat} {g:Nat→Prop}:∀{l:List (Nat×Option Box)},nW s q g l→∀k b,(k,some b)∈l→∃b0,s.h (q k)=some b0∧BoxLe s q g b0 b
 | (a,none) :: l,h,t,d,hx=>by
  rcases List.mem_cons.1 hx with e|hx
  ·cases e
  ·exact oU (l:=l) h t d hx
 | (a,some b) :: l,h,t,d,hx=>by
  rcases List.mem_cons.1 hx with e|hx
  ·injection e with e1 e2;injection e2 with e2;subst e1;subst e2;exact h.1
  ·exact oU h.2 t d hx
def qf:List (Nat×Nat)→Nat→Nat
 | [],k=>k
 | (a,b) :: r,k=>bif a.beq k then b else qf r k
def FU (U:List Nat) (ts:List (Nat×TV)) (hs:List (Nat×Box)) (q:Nat→Nat) (Ks:List Nat):Bool :=
 ts.all (fun x=>x.2.in_ U) && hs.all (fun x=>x.2.in_ U) && Hd U (aj hs) && dG ((aj hs).map q) && Ks.all (fun k=>aD U k && (q k).beq k)
theorem gP {q:Nat→Nat}:∀{l:List Nat},dG (l.map q)=true→∀k k',aD l k=true→aD l k'=true→q k=q k'→k=k'
 | [],_,_,_,h,_,_=>by simp [aD] at h
 | x :: l,hn,k,k',h,h',e=>by
  simp only [List.map_cons,dG,Bool.and_eq_true,Bool.not_eq_true'] at hn;have hx:∀j,aD l j=true→q x=q j→False:=fun j hj e=>by
   have:aD (l.map q) (q x)=true:=by rw [ba,e];exact List.mem_map.2 ⟨j,ba.1 hj,rfl⟩
   rw [this] at hn;exact absurd hn.1 (by simp)
  simp only [aD,Bool.or_eq_true] at h h';rcases h with h|h <;> rcases h' with h'|h'
  ·rw [←Nat.eq_of_beq_eq_true h,←Nat.eq_of_beq_eq_true h']
  ·rw [←Nat.eq_of_beq_eq_true h] at e;exact (hx k' h' e).elim
  ·rw [←Nat.eq_of_beq_eq_true h'] at e;exact (hx k h e.symm).elim
  ·exact gP hn.2 k k' h h' e
section
variable {nt:Nat} {Ks:List Nat} {s:Mst}
theorem n8 {hs:List (Nat×Box)} {q:Nat→Nat} {j:Nat} (h:aD ((aj hs).map q) j=false):∀k,df hs k≠none→q k≠j:=fun k hk e=>by
 cases h9:df hs k with
 | none=>exact hk h9
 | some b =>
  have:aD ((aj hs).map q) j=true:=by rw [ba,←e];exact List.mem_map.2 ⟨k,ba.1 (cf h9).1,rfl⟩
  rw [this] at h;cases h
theorem Hm {U:List Nat} {ts:List (Nat×TV)} {hs:List (Nat×Box)} (q:Nat→Nat) (hok:FU U ts hs q Ks=true)
  (ht:DY s q (fun j=>∀k,df hs k≠none→q k≠j) ts)
  (hh:DZ s q (fun j=>∀k,df hs k≠none→q k≠j) hs):Le nt Ks s (cq U ts hs):=by
 intro c ρ a w hc hK hr;subst hK;simp only [FU,Bool.and_eq_true] at hok;obtain ⟨⟨⟨⟨o1,o2⟩,o3⟩,o4⟩,o5⟩:=hok;have ax:∀k,df hs k≠none→aD (aj hs) k=true:=fun k hk=>by
  cases h9:df hs k with
  | none=>exact absurd h9 hk
  | some b=>exact (cf h9).1
 have hU:∀k,(!aD U k)=true→aD U k=false:=fun k h=>by simpa using h
 have htg:∀(l:List (Nat×TV)) (n:Nat),(xu l n = .c .any)∨∃d,(n,d)∈l∧xu l n=d:=by
  intro l n;induction l with
  | nil=>exact .inl rfl
  | cons x l ih =>
   obtain ⟨k,d⟩:=x;simp only [xu];cases hk:k.beq n with
   | true=>rw [Nat.eq_of_beq_eq_true hk];exact .inr ⟨d,by simp,rfl⟩
   | false =>
    rcases ih with h|⟨d',h1,h2⟩
    ·exact .inl h
    ·exact .inr ⟨d',by simp [h1],h2⟩
 refine ⟨_,hr.weak (s':=cq U ts hs) (q:=q) ⟨fun k k' hk hk' e=>gP o4 k k' (ax k hk) (ax k' hk') e,fun k b hk=>?_⟩ (fun k hk=>?_) ⟨fun k hk=>?_,fun k t hk=>?_,fun k k' b hk hb=>?_⟩ fun t=>?_⟩
 ·exact vv hh k b (cf hk).2
 ·have:=List.all_eq_true.1 o5 k hk;simp only [Bool.and_eq_true] at this;exact ⟨Nat.eq_of_beq_eq_true this.2,by show (!aD U k)=false;rw [this.1];rfl⟩
 ·have hk:=hU k hk;cases h9:df hs k with
  | none=>exact h9
  | some b=>rw [ja o3 (cf h9).1] at hk;cases hk
 ·have hk:=hU k hk;show (xu ts t).has k=false;rcases htg ts t with h|⟨d,h1,h2⟩
  ·rw [h];rfl
  ·rw [h2];cases h9:d.has k with
   | false=>rfl
   | true=>rw [TV.in_has (List.all_eq_true.1 o1 (t,d) h1) h9] at hk;cases hk
 ·have hk:=hU k hk;cases h9:b.has k with
  | false=>rfl
  | true=>rw [Box.in_has (List.all_eq_true.1 o2 (k',b) (cf hb).2) h9] at hk;cases hk
 ·show TVLe _ _ _ _ (xu ts t);rcases htg ts t with h|⟨d,h1,h2⟩
  ·rw [h];exact .any _
  ·rw [h2];exact vu ht t d h1
theorem oV {P:Program} {fn:Func} {hin:List (Nat×Box)} {res:TV} {hout:List (Nat×Option Box)} {e:Exit} (he:e = .normal∨e = .ret) (xs:List V0) (q:Nat→Nat) (hx:All2 (RV P s) fn.results.toList xs) (hq:(aj hin).all (fun k=>(q k).beq k)=true)
  (hn:dG ((aj (hout.filter fun x=>x.2.isSome)).map q)=true) (hh:nW s q (fun j=>∀k,hput hout (fun _=>none) k≠none→q k≠j) hout)
  (hr:TVLe s q (fun j=>∀k,hput hout (fun _=>none) k≠none→q k≠j) (FS xs) res):uR P fn hin res hout e s:=by
 have ax:∀k,hput hout (fun _=>none) k≠none→aD (aj (hout.filter fun x=>x.2.isSome)) k=true:=fun k hk=>by
  cases h9:hput hout (fun _=>none) k with
  | none=>exact absurd h9 hk
  | some b=>rw [ba];exact List.mem_map.2 ⟨(k,some b),List.mem_filter.2 ⟨lx h9,rfl⟩,rfl⟩
 refine ⟨he,xs,q,hx,fun k hk=>?_,⟨fun k k' hk hk' e=>gP hn k k' (ax k hk) (ax k' hk') e,fun k b hk=>?_⟩,hr⟩
 ·exact Nat.eq_of_beq_eq_true (List.all_eq_true.1 hq k (ba.1 hk))
 ·exact oU hh k b (lx hk)
end
section
variable {P:Program} {o:Oper} {s:Mst}
def sE (s:Mst) (q:Nat→Nat):List (Nat×Box)→Prop
 | []=>True
 | (k,b) :: r=>s.h (q k)=some (b.ren q)∧sE s q r
theorem mx {s:Mst} {q:Nat→Nat}:∀{l:List (Nat×Box)},sE s q l→∀k b,(k,b)∈l→s.h (q k)=some (b.ren q)
 | (a,b) :: l,h,t,d,hx=>by
  rcases List.mem_cons.1 hx with e|hx
  ·injection e with e1 e2;subst e1;subst e2;exact h.1
  ·exact mx h.2 t d hx
theorem BN {f:FuncId} {xs:Array Operand} {ts:Array TypeId} {args:List V0} {hin:List (Nat×Box)} {us:List Nat} {res:TV} {hout:List (Nat×Option Box)} (hs:FSpec P f args hin us res hout) (q:Nat→Nat) (ho:o.op = .call { callee:=.value (.func f),args:=xs,argTypes:=ts })
  (ha:All2 (fun x d=>s.ev x = .v (V0.ren q d)) xs.toList args) (hn:dG ((aj hin++us).map q)=true) (hh:sE s q hin):LOp P o s ((aj hin).map q) ⟨res.ren q,dx q hout,us.map q⟩:=by
 intro c st ρ a w hr h1 h2 h3 h4;have hargs:All2 (fun d v=>(V0.ren q d).rep w (Fz c st.h ρ w) ρ v) args (xs.toList.map a.eval):=by
  have key:∀(l:List Operand) (m:List V0),(∀x∈l,st.ev x=s.ev x)→All2 (fun x d=>s.ev x = .v (V0.ren q d)) l m→All2 (fun d v=>(V0.ren q d).rep w (Fz c st.h ρ w) ρ v) m (l.map a.eval):=by
   intro l;induction l with
   | nil=>intro m _ h;cases m with
    | nil=>trivial
    | cons=>exact h.elim
   | cons x l ih =>
    intro m hl h;cases m with
    | nil=>exact h.elim
    | cons d m =>
     refine ⟨?_,ih m (fun y hy=>hl y (by simp [hy])) h.2⟩;have:=hr.ev x;rw [hl x (by simp),h.1] at this;exact this
  exact key _ _ (fun x hx=>h1 x (by simp [ho,Op.operands,Call.operands];exact .inr (by simpa using hx))) ha
 have hin':∀k b,df hin k=some b→st.h (q k)=some (b.ren q):=fun k b hk=>by
  rw [h2 (q k) (by rw [ba];exact List.mem_map.2 ⟨k,ba.1 (cf hk).1,rfl⟩)];exact mx hh k b (cf hk).2
 have hc:=hs.ca q c st ρ a w (xs.toList.map a.eval) hr (fun k k' hk hk' e=>gP hn k k' hk hk' e) hargs hin' fun k hk=>h3 _ (by show aD (us.map q) (q k)=true;rw [ba];exact List.mem_map.2 ⟨k,ba.1 hk,rfl⟩);have he:(xs.toList.map a.eval).toArray=xs.map a.eval:=by apply Array.toList_inj.1;simp
 rw [he] at hc;unfold Oper.wp execOp;simp only [ho,resolve,Act.eval,Deferred.ofValue,invoke,Sem.run_bind,Sem.run_pure,Result.andThen_ok,Array.append_empty,Array.empty_append];rw [hs.en];refine hc.mono fun e w' ⟨v,hv,hk⟩=>?_;subst hv;exact hk o.dst h4
end
end Go.Proofs.YtcgpepnbohejfaaGreatDoor
