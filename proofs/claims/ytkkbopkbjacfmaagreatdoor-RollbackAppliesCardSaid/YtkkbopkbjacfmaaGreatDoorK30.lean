/- Part K30 of a proof of statements of chapter 15 (no condition). -/
import Derived.Test.YtkkbopkbjacfmaaGreatDoorK27
import Derived.Test.YtkkbopkbjacfmaaGreatDoorK28
set_option linter.unusedVariables false
set_option linter.unusedSimpArgs false
set_option maxRecDepth 100000
set_option maxHeartbeats 64000000
namespace Go.Proofs.YtkkbopkbjacfmaaGreatDoor
open Go.RowKit Go.Proofs.Tryz
def Ew (x:Pc) (i:Nat):List Tm->List Bool->Wk->Prop
 | a :: l,b :: bs,w=>eV w.c.queues=true/\bh w.c.queues a.name=true/\w.ev.length<=900000/\i<w.c.procs.length/\Ew x i l bs (bif b then jh w i x.proc a.name else cg w x a.name)
 | _,_,_=>True
def Pf (v:Wk) (i:Nat):Wk:=dB (v.pc i) i (cR (v.pc i).req.expr) (dj (v.pc i).req.expr (bN v.c.queues (v.pc i).proc (v.pc i).req.expr)) (v.note 2 (v.pc i).proc)
def StOk:Nat->Wk->Prop
 | 0,v=>v.c.procs.length<=100000/\fG v.c.queues 0 v.c.procs=none
 | n+1,v=>v.c.procs.length<=100000/\v.ev.length<=900000/\∀i,fG v.c.queues 0 v.c.procs=some i->i<v.c.procs.length/\i<(Pf v i).c.procs.length/\
   Ew (v.pc i) i (cR (v.pc i).req.expr) (dj (v.pc i).req.expr (bN v.c.queues (v.pc i).proc (v.pc i).req.expr)) (v.note 2 (v.pc i).proc)/\StOk n (lC v i)
theorem StOk.len {n:Nat} {v:Wk} (h:StOk n v):v.c.procs.length<=100000:=by cases n <;> exact h.1
theorem A6 (d:Nat) (w:Wk) (h8:w.c.procs.length<=100000) {o:Option Nat} (ho:fG w.c.queues 0 w.c.procs=o):FSpec prog 273 [ls] (HI d w) [3,4] (.i (O7 o)) (HO d w):=ho▸vE d w h8
theorem gX (w:Wk) (i:Nat) (x:Pc):(w.setP i x).c.procs.length=w.c.procs.length:=List.length_set
theorem nh (d:Nat) (w:Wk) (n:Nat) (hok:StOk n w):FSpec prog 184 [ls] (HI d w) [3,4] (.tup []) (HO d (be n w)):=by
 refine aS func184 ?_;obtain ⟨W,hW⟩:=qGe (be n w);rw [hW];have h0:=hok.len;repeat' (first|refine az ?_ ?_|refine aa 9 rfl (cH (qf [(3,1003),(4,1004)]) (vE d w h0) ?_)|refine ay ?_|exact aA|refine ax fun hb=>?_)
 refine ab (fun y:Nat×Wk=>StOk y.1 y.2/\be y.1 y.2=W) (fun y=>bC [0,1,2,1010,1011] [(0,.v ls),(2,.i (O7 (fG y.2.c.queues 0 y.2.c.procs)))] [(0,.box 163 (GM y.2 1010 1011)),(1010,.arr 121 (wS d) y.2.c.procs),(1011,.arr 355 sR y.2.ev)]) (fun y=>y.1) (n,w) ⟨hok,hW⟩ (by exact a8 (qf [(1010,1003),(1011,1004)])) ?_;rintro ⟨m,v⟩ ⟨hv,hs⟩;dsimp only at *
 cases ho:fG v.c.queues 0 v.c.procs with
 | none =>
  obtain rfl:v=W:=by
   rw [<-hs];cases m with
   | zero=>rfl
   | succ m=>simp [be,ho]
  have hneg:O7 none = -1:=rfl;refine ao ?_
  (exact D7 (qf [(3,1010),(4,1011)]))
 | some i =>
  cases m with
  | zero=>rw [hv.2] at ho;cases ho
  | succ m =>
   obtain ⟨_,hev,hall⟩:=hv;obtain ⟨hi,hi2,hfin,hnext⟩:=hall i ho;rw [show be (m+1) v=be m (lC v i) by simp [be,ho]] at hs;obtain ⟨x,hx⟩:∃x,v.c.procs[i]? = some x:=⟨_,qGg hi⟩;have hpc:=lv hx;unfold Pf at hi2;have hfw:lC v i=bi (fh (dB (v.pc i) i (cR (v.pc i).req.expr) (dj (v.pc i).req.expr (bN v.c.queues (v.pc i).proc (v.pc i).req.expr)) (v.note 2 (v.pc i).proc)) i) i:=rfl;rw [hfw] at hs hnext;clear hfw;rw [hpc] at hi2 hfin hs hnext;have h8:=dE x.req.expr;obtain ⟨L,hL⟩:=qGe (cR x.req.expr);have hgl:(bN v.c.queues x.proc x.req.expr).length<=1000:=by simp [bN];omega
   obtain ⟨keep,hkeep⟩:=qGe (dj x.req.expr (bN v.c.queues x.proc x.req.expr));have hkl:keep.length=L.length:=by rw [<-hkeep,xO,hL]
   have kP:=NE d x.req.expr (bN v.c.queues x.proc x.req.expr) hgl;rw [hkeep] at kP hi2 hfin hs hnext;rw [hL] at hi2 hfin hs hnext h8;obtain ⟨F,hF⟩:=qGe (dB x i L keep (v.note 2 x.proc));rw [hF] at hi2 hs hnext;have hx1:O7 (some i)=(i:Int):=rfl;repeat' (first|refine az ?_ ?_|(refine aa 9 rfl ?_;first|(refine cH (qf [(1,1010),(2,1011),(3,1003),(4,1004)]) (Iy d v 2 x.proc (by omega)) ?_)|(refine cC [] (mq d v.c.queues x.proc x.req.expr) ?_)|(refine cC [] kP ?_)|(refine cC [] (jO d x.req.expr hL) ?_))|refine ay ?_|exact aA|(refine ax fun hb=>?_;first|(exact absurd hb (by rw [hx1];omega))|skip))
   refine ab (fun y:Nat×Wk=>y.1<=L.length/\Ew x i (L.drop y.1) (keep.drop y.1) y.2/\dB x i (L.drop y.1) (keep.drop y.1) y.2=F) (fun y=>bC [0,1,2,3,1020,1021] [(0,.v ls),(2,.i i),(3,.c (.ptr 3 0)),(4,.c (.sl eI keep)),(5,.c (.sl da L)),(6,.i y.1)] [(0,.box 163 (GM y.2 1020 1021)),(3,.box 121 (x.d d)),(1020,.arr 121 (wS d) y.2.c.procs),(1021,.arr 355 sR y.2.ev)]) (fun y=>L.length-y.1) (0,v.note 2 x.proc) ⟨Nat.zero_le _,hfin,hF⟩ (by exact a8 (qf [(1020,1003),(1021,1004)])) ?_;rintro ⟨k,u⟩ ⟨hk,hu,hg⟩;dsimp only at *
   by_cases hlt:k<L.length
   case neg =>
    obtain rfl:u=F:=by rw [<-hg,qDn (by omega),qDn (by omega)];rfl
    obtain ⟨o2,ho2⟩:=qGe (fG (bi (fh u i) i).c.queues 0 (bi (fh u i) i).c.procs);have hl2:i<(fh u i).c.procs.length:=by rw [fh,gX];exact hi2
    have hl3:=hnext.len;repeat' (first|refine az ?_ ?_|(refine aa 9 rfl ?_;first|(refine cH (qf [(1,1020),(2,1021),(3,1040),(4,1041)]) (Mt d u i hi2) ?_)|(refine cH (qf [(1,1040),(2,1041),(3,1050),(4,1051)]) (ov d (fh u i) i hl2) ?_)|(refine cH (qf [(1,1050),(2,1051),(3,1060),(4,1061)]) (A6 d (bi (fh u i) i) hl3 ho2) ?_))|refine ay ?_|exact aA|refine ax fun hb=>?_)
    refine ⟨(m,bi (fh u i) i),⟨hnext,hs⟩,by dsimp only;omega,?_⟩;dsimp only;rw [ho2];exact a8 (qf [(1010,1060),(1011,1061)])
   rw [qDc hlt,List.drop_eq_getElem_cons (l:=keep) (by omega)] at hu hg;obtain ⟨u1,u2,u3,u4,u5⟩:=hu;obtain ⟨b,hb1⟩:=qGe (keep[k]'(by omega));have hgb:keep[k]? = some b:=by rw [qGg (by omega),hb1]
   obtain ⟨a,ha⟩:=qGe (L[k]);have hga:L[k]? = some a:=by rw [qGg hlt,ha]
   rw [hb1] at u5 hg;rw [ha] at u2 u5 hg;cases b with
   | false =>
    repeat' (first|refine az ?_ ?_|refine aa 9 rfl (cH (qf [(1,1020),(2,1021),(3,1030),(4,1031)]) (Mz d u x a.name u1 u2 u3) ?_)|refine ay ?_|exact aA|refine ax fun hb=>?_)
    refine ⟨(k+1,cg u x a.name),⟨by dsimp only;omega,u5,hg⟩,by dsimp only;omega,?_⟩;exact a8 (qf [(1020,1030),(1021,1031)])
   | true =>
    obtain ⟨j,hj,hFj,hqj⟩:=ze u2;obtain ⟨y,hy⟩:∃y,u.c.procs[i]? = some y:=⟨_,qGg u4⟩;have hpy:=lv hy;obtain ⟨h,hh⟩:=qGe (af u.c.queues[j].holds x.proc);have kH:=eT u.c.queues[j] x.proc;rw [hh] at kH;obtain ⟨l,hll⟩:=qGe (aw y.led.entries a.name);have kLh:=jk y.led.entries a.name;rw [hll] at kLh;have hrec:jh u i x.proc a.name=bif decide (h=l) then u else u.setP i { y with led:=(ij y.led ⟨a.name,l,h⟩).1 }:=by
     unfold jh;rw [hqj,hh,hpy,hll]
    rw [show dB x i (a :: L.drop (k+1)) (true :: keep.drop (k+1)) u=dB x i (L.drop (k+1)) (keep.drop (k+1)) (jh u i x.proc a.name) from rfl,hrec] at hg;rw [hrec] at u5;by_cases hhl:h=l
    ·rw [qDt hhl,qCt] at u5 hg;have:=du u.c.queues a.name hFj;refine ao ?_;refine ⟨(k+1,u),⟨by dsimp only;omega,u5,hg⟩,by dsimp only;omega,?_⟩;exact aL
    ·rw [qDf hhl,qCf] at u5 hg;obtain ⟨R,hR⟩:=qGe (ij y.led ⟨a.name,l,h⟩);rw [hR] at u5 hg;repeat' (first|refine az ?_ ?_|(refine aa 9 rfl ?_;first|(refine cB [] (du u.c.queues a.name hFj) ?_)|(refine cB [] kH ?_)|(refine cB [] kLh ?_)|(refine cC [] (Ln y.led ⟨a.name,l,h⟩ hR) ?_))|refine ay ?_|(refine aa 4 rfl ?_;refine bW (aM (z:={ y with led:=R.1 }) rfl rfl rfl rfl hy rfl rfl rfl rfl (qNl rfl) rfl rfl) rfl rfl rfl ?_)|exact aA|refine ax fun hb=>?_)
     refine ⟨(k+1,u.setP i { y with led:=R.1 }),⟨by dsimp only;omega,u5,hg⟩,by dsimp only;omega,?_⟩;exact aL
end Go.Proofs.YtkkbopkbjacfmaaGreatDoor
