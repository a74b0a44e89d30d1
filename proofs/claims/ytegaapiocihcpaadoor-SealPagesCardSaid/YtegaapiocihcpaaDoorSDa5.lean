/- Texts of SpC. -/
import Derived.Test.YtegaapiocihcpaaDoorSDa4
import Derived.Laws.EntriesVeiled
import Derived.RangeFuncNested
import Derived.RangeFuncBound
import Derived.RangeFuncCalls
import Derived.RangeFuncLeaves
import Derived.RangeFuncBox
import Derived.Shelf.Abstract
import Derived.Shelf.RegionOpen
import Derived.OwnWalkIn
import Derived.TacticsInMore
import Derived.LoopNIn
import Derived.LoopIn
set_option maxHeartbeats 8000000
namespace Go.Proofs.YtegaapiocihcpaaDoor
open Go.RowKit
def Qc3 (Hb Lb Sb:Nat):Value:=.func (.func 67) #[] #[.pointer (some ⟨Hb,0,none⟩),.pointer (some ⟨Lb,0,none⟩),.pointer (some ⟨Sb,0,none⟩)]
theorem room_any (Hb Lb Sb h l s:Nat)(w:World)(hh:h≤1048576)(hl:l≤1073741824)(hs:s≤1073741824)(h1:w.cell? ⟨Hb,0,none⟩=some (.int .i64 (h:Int)))(h2:w.cell? ⟨Lb,0,none⟩=some (.int .i64 (l:Int)))(h3:w.cell? ⟨Sb,0,none⟩=some (.int .i64 (s:Int))):
 Calls Tryd.prog 67 #[.pointer (some ⟨Hb,0,none⟩),.pointer (some ⟨Lb,0,none⟩),.pointer (some ⟨Sb,0,none⟩)] w fun e w'=>e=.returned (.int .i64 (Qce h l s))∧w=w':=by
 go_enter Tryd.func67,Tryd.ntmps67;go_wp2_with fail;go_ret;refine⟨Qae ?_,rfl⟩;unfold Qce;omega
def QbY (h l s q:Nat)(body:List LineP):Bool:=match body[l]? with
 |none=>false
 |some x=>Qb2 h l s q x
theorem fits_any (Lb Bb Rb Sb Qb Hb h l s q cq cb:Nat)(Aq A:Option Addr)(body:List LineP)(w:World)(hh:h≤1048576)(hl:l≤body.length)(hbn:body.length≤1073741824)(hs:s≤1073741824)(_hq:q≤1073741824) (h1:w.cell? ⟨Hb,0,none⟩=some (.int .i64 (h:Int))) (h2:w.cell? ⟨Lb,0,none⟩=some (.int .i64 (l:Int))) (h3:w.cell? ⟨Sb,0,none⟩=some (.int .i64 (s:Int))) (h4:w.cell? ⟨Bb,0,none⟩=some (.slice A body.length cb)) (h5:w.cell? ⟨Qb,0,none⟩=some (.slice Aq q cq)) (h6:w.cell? ⟨Rb,0,none⟩=some (Qc3 Hb Lb Sb)) (hb:Sl w (fun b=>b<w.heap.size) A cb body):
 Calls Tryd.prog 68 #[.pointer (some ⟨Lb,0,none⟩),.pointer (some ⟨Bb,0,none⟩),.pointer (some ⟨Rb,0,none⟩),.pointer (some ⟨Sb,0,none⟩),.pointer (some ⟨Qb,0,none⟩)] w fun e w'=>e=.returned (.bool (QbY h l s q body))∧Below w.heap.size w w':=by
 have HR:Hid (∀W,Below w.heap.size w W→Calls Tryd.prog 67 #[.pointer (some ⟨Hb,0,none⟩),.pointer (some ⟨Lb,0,none⟩),.pointer (some ⟨Sb,0,none⟩)] W fun e w'=>e=.returned (.int .i64 (Qce h l s))∧W=w'):=Lh (fun W hW=>room_any Hb Lb Sb h l s W hh (by omega) hs ((hW.cell (p:=⟨Hb,0,none⟩) (World.block_lt_of_cell? w ⟨Hb,0,none⟩ h1)).trans h1) ((hW.cell (p:=⟨Lb,0,none⟩) (World.block_lt_of_cell? w ⟨Lb,0,none⟩ h2)).trans h2) ((hW.cell (p:=⟨Sb,0,none⟩) (World.block_lt_of_cell? w ⟨Sb,0,none⟩ h3)).trans h3))
 unfold Qc3 at h6;have HL:=Lh hl;by_cases he:l=body.length
 ·have hf:QbY h l s q body=false:=by unfold QbY;rw[List.getElem?_eq_none (by omega)]
  rw[hf];rw[←he] at h4;have HE:=Lh he;clear hl hb hf he;go_enter Tryd.func68,Tryd.ntmps68;go_wp2_with fail;go_ret;exact⟨rfl,Below.refl _ _⟩
 ·have hlt:l<body.length:=by omega
  have hf:QbY h l s q body=Qb2 h l s q body[l]:=(by unfold QbY;rw[qG hlt]);rw[hf];obtain⟨b,o,Ag,cg,An,cn,rfl,hbb,hbl,-,-,-,e3,-,-⟩:=Qcr hb hlt;have hlc:body.length≤cb:=hb.1;have hlI:(l:Int)<(body.length:Int):=(by omega);have hl0:(0:Int)≤(l:Int):=(by omega);have HNE:((l:Int)==(body.length:Int))=false:=(by rw[beq_eq_false_iff_ne];omega);have HE:=Lh he;obtain⟨x,hx⟩:∃x,body[l]=x:=⟨_,rfl⟩;rw[hx] at e3 ⊢;clear hl hb hf he hx;by_cases hn:x.notes.length=0
  ·have hf:Qb2 h l s q x=decide (0<Qce h l s):=by unfold Qb2;rw[if_pos (List.eq_nil_of_length_eq_zero hn)]
   rw[hf];rw[hn] at e3;clear hn hf;go_enter Tryd.func68,Tryd.ntmps68;go_wp2_with (first|(go_at_call 67;refine(HR.out _ bR).mono ?_;rintro e w' ⟨rfl,rfl⟩)|fail);go_ret;exact⟨rfl,Below.refl _ _⟩
  ·have hf:Qb2 h l s q x=(decide (s=q)&&decide (3-((min s 1:Nat):Int)≤Qce h l s)):=by unfold Qb2;rw[if_neg (fun h=>hn (by rw[h];rfl))]
   rw[hf];have HN0:((x.notes.length:Int)==0)=false:=(by rw[beq_eq_false_iff_ne];omega);have HN:=Lh hn;clear hn hf;have hl1:Lb<w.heap.size:=World.block_lt_of_cell? w ⟨Lb,0,none⟩ h2;have hl3:Sb<w.heap.size:=World.block_lt_of_cell? w ⟨Sb,0,none⟩ h3;have hl5:Qb<w.heap.size:=World.block_lt_of_cell? w ⟨Qb,0,none⟩ h5;have hl6:Rb<w.heap.size:=World.block_lt_of_cell? w ⟨Rb,0,none⟩ h6
   have HE1:∀b,decide (s=q)=b→((s:Int)==(q:Int))=b:=fun b hb=>by
    rw[←hb,Bool.eq_iff_iff,beq_iff_eq,decide_eq_true_iff];omega
   cases hsq:decide (s=q)<;>
   ·have HE2:=HE1 _ hsq;clear HE1 hsq;go_enter Tryd.func68,Tryd.ntmps68;go_wp2_with fail;refine wp_region_calm (by kernel_rfl) (by kernel_rfl) ?_;intro T5 hT5 f hf hg;have a3:∀d,(f d).cell? ⟨Sb,0,none⟩=some (.int .i64 (s:Int)):=fun d=>((hf d).cell (p:=⟨Sb,0,none⟩) hl3).trans h3
    have a5:∀d,(f d).cell? ⟨Qb,0,none⟩=some (.slice Aq q cq):=fun d=>((hf d).cell (p:=⟨Qb,0,none⟩) hl5).trans h5
    have a6:∀d,(f d).cell? ⟨Rb,0,none⟩=some (.func (.func 67) #[] #[.pointer (some ⟨Hb,0,none⟩),.pointer (some ⟨Lb,0,none⟩),.pointer (some ⟨Sb,0,none⟩)]):=fun d=>((hf d).cell (p:=⟨Rb,0,none⟩) hl6).trans h6
    have HF5:=Lh hf;have HG5:=Lh hg;clear hf hg
    repeat(go_big_quiet_step (first|(go_at_call 67;refine(HR.out _ (HF5.out _)).mono ?_;rintro e w6 ⟨rfl,rfl⟩;exact⟨rfl,HG5.out _ _ bR⟩)))
    refine wpQuiet_nil ?_;rintro _ ⟨nq,rfl⟩;have Hd:=Lh (HF5.out nq);clear HF5 HG5 a3 a5 a6;generalize f nq=wd at*;unfold Exit.then;go_wp2_with fail;go_ret;refine⟨Qao ?_,Hd.out⟩;first|rfl|(rw[Bool.true_and,decide_eq_decide];constructor<;>intro _<;>omega)
structure Av (α:Type)(P:Nat→Prop) where
 x:α
instance instRepAv (α:Type)[Rep α](P:Nat→Prop):Rep (Av α P) where
 size:=Rep.size α
 R w S cs y:=Rep.R w (fun b=>S b∧P b) cs y.x
 len h:=Rep.len (α:=α) h
 one h:=Rep.one (α:=α) h
 keep h hk:=Rep.keep (α:=α) h (fun i hi hlt=>hk i hi.1 hlt)
 mono h hS:=Rep.mono (α:=α) h (fun i hi hlt=>⟨hS i hi.1 hlt,hi.2⟩)
structure OwnP {α:Type}[Rep α](w:World)(base:Nat)(e:TypeId)(v:Value)(l:List α)(P:Nat→Prop):Prop where
 own:Own w base e v (l.map (Av.mk:α→Av α P))
 at_:∀g,v.ownBlock=some g→P g
section
variable {α:Type} [Rep α] {P Q:Nat→Prop} {w w':World} {base:Nat} {e:TypeId} {v:Value} {l:List α}
theorem size_av:Rep.size (Av α P)=Rep.size α:=rfl
theorem OwnP.nil (w:World)(base:Nat)(e:TypeId)(P:Nat→Prop):OwnP w base e (.slice none 0 0) ([]:List α) P:=⟨Own.nil _ _ _,by simp[Value.ownBlock]⟩
theorem OwnP.kept (h:OwnP w base e v l P)(hk:Kept P w w'):OwnP w' base e v l P:=by
 obtain⟨⟨xs,hx,ho,hr⟩,ha⟩:=h;refine⟨⟨xs,⟨hx.1,?_⟩,ho,fun i hi=>Rep.keep (α:=α) (hr i hi) (fun b hb hl=>hk b hb.2 hl)⟩,ha⟩;rcases hx.2 with hn|⟨g,cap,cur,hv,hb,hg,rest⟩
 ·exact .inl hn
 ·refine .inr ⟨g,cap,cur,hv,hb,?_,rest⟩;rw[hk g (ha g (by rw[hv];rfl)) (Array.getElem?_eq_some_iff.1 hg).1];exact hg
theorem OwnP.below (h:OwnP w base e v l P)(hb:Below w.heap.size w w'):OwnP w' base e v l P:=h.kept (Kept.all hb)
theorem OwnP.grown {row:Option Nat}(h:OwnP w base e v l P)(hg:w.grownBy w' row)(hP:∀i,P i→some i≠row):OwnP w' base e v l P:=h.kept (Kept.grown hg hP)
theorem OwnP.set (h:OwnP w base e v l P)(b o:Nat)(u:Value)(hP:∀i,P i→i≠b):OwnP (w.setCell ⟨b,o,none⟩ u) base e v l P:=
 h.kept (fun i hi _=>Qad w b o u (hP i hi))
theorem OwnP.lt (h:OwnP w base e v l P):∀k,v.ownBlock=some k→base≤k∧k<w.heap.size:=h.own.lt
theorem OwnP.mono (h:OwnP w base e v l P)(hPQ:∀i,P i→i<w.heap.size→Q i):OwnP w base e v l Q:=by
 have hlt:=h.own.lt;obtain⟨⟨xs,hx,ho,hr⟩,ha⟩:=h;refine⟨⟨xs,by rw[qM] at hx ⊢;exact hx,ho,fun i hi=>?_⟩,fun g hg=>hPQ g (ha g hg) (hlt g hg).2⟩;rw[qM] at hi;have h1:=hr i (by rw[qM];exact hi);rw[List.getElem_map] at h1 ⊢;exact Rep.mono (α:=α) h1 (fun b hb hl=>⟨hb.1,hPQ b hb.2 hl⟩)
theorem OwnP.plain (h:OwnP w base e v l P):Own w base e v l:=by
 obtain⟨⟨xs,hx,ho,hr⟩,ha⟩:=h;refine⟨xs,by rw[qM] at hx;exact hx,ho,fun i hi=>?_⟩;have h1:=hr i (by rw[qM];exact hi);rw[List.getElem_map] at h1;exact Rep.mono (α:=α) h1 (fun b hb _=>hb.1)
theorem OwnP.len (h:OwnP w base e v l P):∃A c,v=.slice A l.length c∧(∀a,A=some a→base≤a.block∧a.block<w.heap.size)∧l.length≤c∧c≤maxLen:=h.plain.form
theorem OwnP.sl (h:OwnP w base e v l P):∃A c,v=.slice A l.length c∧Sl w P A c l:=by
 obtain⟨⟨xs,hx,ho,hr⟩,ha⟩:=h;rcases hx.2 with⟨rfl,hn⟩|⟨g,cap,cur,rfl,hb,hg,hnc,hcm,hcs,htake⟩
 ·rw[qM] at hn;exact⟨none,0,by rw[hn],by omega,by simp[maxLen],fun h=>absurd h (by omega)⟩
 ·rw[qM] at hnc htake;have hlt:=(Array.getElem?_eq_some_iff.1 hg).1;refine⟨some ⟨g,0,none⟩,cap,by rw[qM],hnc,hcm,fun _=>⟨g,0,rfl,ha g rfl,hlt,fun i hi=>?_⟩⟩;have h1:=hr i (by rw[qM];exact hi);rw[List.getElem_map] at h1;refine⟨_,Rep.mono (α:=α) h1 (fun b hb' _=>hb'.2),fun j u hu=>?_⟩;rw[Nat.zero_add,cell_of_row w g _ cur e (0,0) hg];rw[List.getElem?_take] at hu;split at hu
  ·rename_i hj;rw[List.getElem?_drop] at hu;have hu2:xs[i*Rep.size α+j]? =some u:=hu;have hlx:i*Rep.size α+j<xs.length:=(List.getElem?_eq_some_iff.1 hu2).1;have hxl:xs.length=l.length*Rep.size α:=(by have:=hx.1;rw[qM] at this;exact this);have e2:cur.toList[i*Rep.size α+j]? =some u:=by
    have h3:(cur.toList.take (l.length*Rep.size α))[i*Rep.size α+j]? =some u:=by
     have h4:=congrArg (fun t:List Value=>t[i*Rep.size α+j]?) htake;simp only[size_av] at h4;rw[h4];exact hu2
    rw[List.getElem?_take] at h3;split at h3
    ·exact h3
    ·cases h3
   simpa using e2
  ·cases hu
theorem OwnP.ofBd (h:Own w base e v (l.map (Av.mk:α→Av α P)))(ha:∀g,v.ownBlock=some g→P g):OwnP w base e v l P:=⟨h,ha⟩
end
section
variable {α:Type} [Rep α] {P:Nat→Prop} {w w':World} {base:Nat} {e:TypeId} {v:Value}
theorem Own.keptA {l:List (Av α P)}(h:Own w base e v l)(hk:Kept P w w')(ha:∀g,v.ownBlock=some g→g<w.heap.size→w'.heap[g]? =w.heap[g]?):Own w' base e v l:=by
 obtain⟨xs,hx,ho,hr⟩:=h;refine⟨xs,⟨hx.1,?_⟩,ho,fun i hi=>Rep.keep (α:=α) (hr i hi) (fun b hb hl=>hk b hb.2 hl)⟩;rcases hx.2 with hn|⟨g,cap,cur,hv,hb,hg,rest⟩
 ·exact .inl hn
 ·refine .inr ⟨g,cap,cur,hv,hb,?_,rest⟩;rw[ha g (by rw[hv];rfl) (Array.getElem?_eq_some_iff.1 hg).1];exact hg
theorem Que.keptA {ob:Option Nat}{l:List (Av α P)}(h:Que w base e ob v l)(hk:Kept P w w')(ha:∀g,ob=some g→g<w.heap.size→w'.heap[g]? =w.heap[g]?):Que w' base e ob v l:=by
 rcases h with⟨pre,g,c,rfl,hlt,ho,rfl⟩|⟨rfl,rfl,A,rfl⟩
 ·exact .inl ⟨pre,g,c,rfl,hlt,ho.keptA hk (fun g' hg'=>ha g' hg'),rfl⟩
 ·exact .inr ⟨rfl,rfl,A,rfl⟩
theorem Sl.av {S:Nat→Prop}{A:Option Addr}{c:Nat}{l:List α}(h:Sl w S A c l)(hS:∀i,S i→i<w.heap.size→P i):Sl w S A c (l.map (Av.mk:α→Av α P)):=by
 refine⟨by rw[qM];exact h.1,h.2.1,fun h0=>?_⟩;rw[qM] at h0;obtain⟨b,o,rfl,hb,hlt,hx⟩:=h.2.2 h0;refine⟨b,o,rfl,hb,hlt,fun i hi=>?_⟩;rw[qM] at hi;obtain⟨es,hr,hc⟩:=hx i hi;rw[List.getElem_map];exact⟨es,Rep.mono (α:=α) hr (fun b hb hl=>⟨hb,hS b hb hl⟩),hc⟩
theorem Sl.unav {S:Nat→Prop}{A:Option Addr}{c:Nat}{l:List α}(h:Sl w S A c (l.map (Av.mk:α→Av α P))):Sl w S A c l:=by
 refine⟨by have:=h.1;rw[qM] at this;exact this,h.2.1,fun h0=>?_⟩;obtain⟨b,o,rfl,hb,hlt,hx⟩:=h.2.2 (by rw[qM];exact h0);refine⟨b,o,rfl,hb,hlt,fun i hi=>?_⟩;obtain⟨es,hr,hc⟩:=hx i (by rw[qM];exact hi);rw[List.getElem_map] at hr;exact⟨es,Rep.mono (α:=α) hr (fun b hb hl=>hb.1),hc⟩
theorem OwnP.pushed {l:List α}{d:α}{v':Value}{H:Nat}(h:OwnP w base e v l P)(h2:Own w' base e v' (l.map (Av.mk:α→Av α P)++[⟨d⟩]))(hat:∀g,v'.ownBlock=some g→v.ownBlock=some g∨g=H)(hH:P H):OwnP w' base e v' (l++[d]) P:=
 ⟨by rw[List.map_append];exact h2,fun g hg=>(hat g hg).elim (h.at_ g) (fun e=>e▸hH)⟩
end
def PBk (B:Nat)(X:List Nat)(ob:Option Nat)(b:Nat):Prop:=B≤b∧b∉X∧some b≠ob
abbrev OldL (B:Nat):=Av LineP (fun b=>b<B)
structure PO (w0 w:World)(Bb Hb Qb:Nat)(X:List Nat)(A:Option Addr)(c:Nat)(body:List LineP)(h:Nat)(ob:Option Nat)(qv:Value)(queue:List LineP)(pv:Value)(pages:List PageP):Prop where
 bl:Below w0.heap.size w0 w
 bb:ABox w Bb 42 [.slice A body.length c]
 bs:Sl w (fun b=>b<w0.heap.size) A c body
 hb:ABox w Hb 3 [.int .i64 (h:Int)]
 qb:ABox w Qb 42 [qv]
 q:Que w w0.heap.size 49 ob qv (queue.map (Av.mk:LineP→OldL w0.heap.size))
 pg:OwnP w w0.heap.size 47 pv pages (PBk w0.heap.size (Bb::Hb::Qb::X) ob)
 nd:(Bb::Hb::Qb::X).Nodup
 ge:∀x∈Bb::Hb::Qb::X,w0.heap.size≤x∧x<w.heap.size∧some x≠ob
section
variable {w0 w w':World} {Bb Hb Qb:Nat} {X:List Nat} {A:Option Addr} {c:Nat} {body:List LineP} {h:Nat} {ob:Option Nat} {qv:Value} {queue:List LineP} {pv:Value} {pages:List PageP}
theorem PO.to (H:PO w0 w Bb Hb Qb X A c body h ob qv queue pv pages)(hb:Below w.heap.size w w'):PO w0 w' Bb Hb Qb X A c body h ob qv queue pv pages:=
 ⟨H.bl.trans (hb.mono H.bl.size),H.bb.to hb,H.bs.keep (Kept.all hb) hb.size,H.hb.to hb,H.qb.to hb,H.q.below hb,H.pg.below hb,H.nd,fun x hx=>⟨(H.ge x hx).1,by have:=(H.ge x hx).2.1;have:=hb.size;omega,(H.ge x hx).2.2⟩⟩
theorem PO.set (H:PO w0 w Bb Hb Qb X A c body h ob qv queue pv pages){x:Nat}(hx:x∈X)(u:Value):PO w0 (w.setCell ⟨x,0,none⟩ u) Bb Hb Qb X A c body h ob qv queue pv pages:=by
 have hn:=H.nd;simp only[List.nodup_cons,List.mem_cons,not_or] at hn;have n1:Bb≠x:=fun e=>hn.1.2.2 (e▸hx)
 have n2:Hb≠x:=fun e=>hn.2.1.2 (e▸hx)
 have n3:Qb≠x:=fun e=>hn.2.2.1 (e▸hx)
 have hxx:x∈Bb::Hb::Qb::X:=by simp[hx]
 have hg:=H.ge x hxx;have hold:Kept (fun b=>b<w0.heap.size) w (w.setCell ⟨x,0,none⟩ u):=fun i hi _=>Qad w x 0 u (by omega)
 refine⟨H.bl.setCell (p:=⟨x,0,none⟩) hg.1 _,H.bb.other n1 _ _,H.bs.keep hold (by simp),H.hb.other n2 _ _,H.qb.other n3 _ _,H.q.keptA hold (fun g hg' _=>Qad w x 0 u (fun e=>hg.2.2 (e▸hg'.symm))),H.pg.set x 0 u (fun i hi e=>hi.2.1 (e▸hxx)),H.nd,fun y hy=>⟨(H.ge y hy).1,by simpa using(H.ge y hy).2.1,(H.ge y hy).2.2⟩⟩
theorem PO.que (H:PO w0 w Bb Hb Qb X A c body h ob qv queue pv pages){ob':Option Nat}{qv':Value}{queue':List LineP}(hg:w.grownBy w' ob)(hq:Que w' w0.heap.size 49 ob' qv' (queue'.map (Av.mk:LineP→OldL w0.heap.size))) (hob:ob'=ob∨ob'=some w.heap.size):PO w0 (w'.setCell ⟨Qb,0,none⟩ qv') Bb Hb Qb X A c body h ob' qv' queue' pv pages:=by
 have hn:=H.nd;simp only[List.nodup_cons,List.mem_cons,not_or] at hn;have n1:Bb≠Qb:=fun e=>hn.1.2.1 e
 have n2:Hb≠Qb:=fun e=>hn.2.1.1 e
 have gB:=H.ge Bb (by simp);have gH:=H.ge Hb (by simp);have gQ:=H.ge Qb (by simp);have hol:=H.q.lt;have hsz:=hg.size
 have hne:∀x∈Bb::Hb::Qb::X,some x≠ob':=fun x hx=>by
  rcases hob with e|e
  ·rw[e];exact(H.ge x hx).2.2
  ·rw[e];intro e2;injection e2 with e2;have:=(H.ge x hx).2.1;omega
 have hold:Kept (fun b=>b<w0.heap.size) w w':=Kept.grown hg (fun i hi e=>by have:=(hol i e.symm).1;omega);have hold2:Kept (fun b=>b<w0.heap.size) w' (w'.setCell ⟨Qb,0,none⟩ qv'):=fun i hi _=>Qad w' Qb 0 qv' (by omega)
 have box:∀{x t cs},x∈Bb::Hb::Qb::X→ABox w x t cs→ABox w' x t cs:=fun hx hb=>(hg.block _ (H.ge _ hx).2.1 (H.ge _ hx).2.2).trans hb
 have hpg:OwnP w' w0.heap.size 47 pv pages (PBk w0.heap.size (Bb::Hb::Qb::X) ob'):=
  (H.pg.mono (Q:=fun b=>PBk w0.heap.size (Bb::Hb::Qb::X) ob b∧PBk w0.heap.size (Bb::Hb::Qb::X) ob' b) (fun i hi hl=>⟨hi,hi.1,hi.2.1,by
    rcases hob with e|e
    ·rw[e];exact hi.2.2
    ·rw[e];intro e2;injection e2 with e2;omega⟩)).kept (Kept.grown hg (fun i hi=>hi.1.2.2)) |>.mono (fun i hi _=>hi.2)
 refine⟨(H.bl.grown hg H.bl.size (fun k hk=>(hol k hk).1)).setCell (p:=⟨Qb,0,none⟩) gQ.1 _,(box (by simp) H.bb).other n1 _ _,(H.bs.keep hold hsz).keep hold2 (by simp),(box (by simp) H.hb).other n2 _ _,?_,hq.keptA hold2 (fun g hg' _=>Qad w' Qb 0 qv' (fun e=>hne Qb (by simp) (e▸hg'.symm))),hpg.set Qb 0 qv' (fun i hi e=>hi.2.1 (by simp[e])),H.nd,fun y hy=>⟨(H.ge y hy).1,by have:=(H.ge y hy).2.1;simp;omega,hne y hy⟩⟩
 have:=(box (by simp) H.qb).set 0 qv';simpa using this
theorem PO.more (H:PO w0 w Bb Hb Qb [] A c body h ob qv queue pv pages)(hb:Below w.heap.size w w'){Y:List Nat}(hY:∀y∈Y,w.heap.size≤y∧y<w'.heap.size)(hn:Y.Nodup):PO w0 w' Bb Hb Qb Y A c body h ob qv queue pv pages:=by
 have H1:=H.to hb;have hno:∀x∈[Bb,Hb,Qb],x∉Y:=fun x hx hy=>by have:=(H.ge x (by simpa using hx)).2.1;have:=(hY x hy).1;omega
 have hol:=H.q.lt;refine⟨H1.bl,H1.bb,H1.bs,H1.hb,H1.qb,H1.q,?_,?_,?_⟩
 ·refine(H.pg.mono (fun i hi hl=>⟨hi.1,?_,hi.2.2⟩)).below hb;intro hm;have:i∈[Bb,Hb,Qb]∨i∈Y:=(by simp only[List.mem_cons] at hm ⊢;simp;rcases hm with h|h|h|h<;>simp[h]);rcases this with h1|h1
  ·exact hi.2.1 h1
  ·have:=(hY i h1).1;omega
 ·have:=H.nd;simp only[List.nodup_cons,List.mem_cons,not_or] at this ⊢;refine⟨⟨this.1.1,this.1.2.1,hno Bb (by simp)⟩,⟨this.2.1.1,hno Hb (by simp)⟩,hno Qb (by simp),hn⟩
 ·intro x hx;by_cases hm:x∈[Bb,Hb,Qb]
  ·exact H1.ge x hm
  ·have hy:x∈Y:=by simp only[List.mem_cons,not_or] at hx hm;rcases hx with h|h|h|h<;>simp_all
   refine⟨by have:=(hY x hy).1;have:=H.bl.size;omega,(hY x hy).2,fun e=>?_⟩;have:=(hol x e.symm).2;have:=(hY x hy).1;omega
theorem PO.less (H:PO w0 w Bb Hb Qb X A c body h ob qv queue pv pages):PO w0 w Bb Hb Qb [] A c body h ob qv queue pv pages:=by
 refine⟨H.bl,H.bb,H.bs,H.hb,H.qb,H.q,H.pg.mono (fun i hi _=>⟨hi.1,fun hm=>hi.2.1 ?_,hi.2.2⟩),?_,fun x hx=>H.ge x ?_⟩
 ·simp only[List.mem_cons] at hm ⊢;rcases hm with h|h|h|h<;>simp_all
 ·have:=H.nd;simp only[List.nodup_cons,List.mem_cons,not_or] at this ⊢;simp_all
 ·simp only[List.mem_cons] at hx ⊢;rcases hx with h|h|h|h<;>simp_all
theorem PO.page (H:PO w0 w Bb Hb Qb X A c body h ob qv queue pv pages){pv':Value}{d:PageP}(hg:w.grownBy w' pv.ownBlock)(h2:Own w' w0.heap.size 47 pv' (pages.map (Av.mk:PageP→Av PageP (PBk w0.heap.size (Bb::Hb::Qb::X) ob))++[⟨d⟩])) (hat:∀g,pv'.ownBlock=some g→pv.ownBlock=some g∨g=w.heap.size):PO w0 w' Bb Hb Qb X A c body h ob qv queue pv' (pages++[d]):=by
 have hpl:=H.pg.lt;have hpa:=H.pg.at_;have hsz:=hg.size;have hol:=H.q.lt;have hold:Kept (fun b=>b<w0.heap.size) w w':=Kept.grown hg (fun i hi e=>by have:=(hpl i e.symm).1;omega);have box:∀{x t cs},x∈Bb::Hb::Qb::X→ABox w x t cs→ABox w' x t cs:=fun {x t cs} hx hb=>(hg.block _ (H.ge _ hx).2.1 (fun e=>(hpa x e.symm).2.1 hx)).trans hb
 refine⟨H.bl.grown hg H.bl.size (fun k hk=>(hpl k hk).1),box (by simp) H.bb,H.bs.keep hold hsz,box (by simp) H.hb,box (by simp) H.qb,H.q.keptA hold (fun g hg' hl=>hg.block g hl (fun e=>(hpa g e.symm).2.2 hg'.symm)),H.pg.pushed h2 hat ⟨H.bl.size,fun hx=>by have:=(H.ge _ hx).2.1;omega,fun e=>by have:=(hol _ e.symm).2;omega⟩,H.nd,fun y hy=>⟨(H.ge y hy).1,by have:=(H.ge y hy).2.1;omega,(H.ge y hy).2.2⟩⟩
theorem PO.cut (H:PO w0 w Bb Hb Qb X A c body h ob qv queue pv pages){A':Option Addr}{c' n:Nat}{body':List LineP}{ob':Option Nat}{qv':Value}{queue':List LineP}(hbs:Sl w (fun b=>b<w0.heap.size) A' c' body')(hn:n=body'.length) (hq:Que w w0.heap.size 49 ob' qv' (queue'.map (Av.mk:LineP→OldL w0.heap.size))) (hob:ob'=none∨ob'=ob):
 PO w0 ((w.setCell ⟨Bb,0,none⟩ (.slice A' n c')).setCell ⟨Qb,0,none⟩ qv') Bb Hb Qb X A' c' body' h ob' qv' queue' pv pages:=by
 subst hn;have hn:=H.nd;simp only[List.nodup_cons,List.mem_cons,not_or] at hn;have n1:Bb≠Qb:=hn.1.2.1;have n2:Hb≠Qb:=hn.2.1.1;have n3:Hb≠Bb:=fun e=>hn.1.1 e.symm
 have n4:Qb≠Bb:=fun e=>n1 e.symm
 have gB:=H.ge Bb (by simp);have gQ:=H.ge Qb (by simp);have hold:Kept (fun b=>b<w0.heap.size) w ((w.setCell ⟨Bb,0,none⟩ (.slice A' body'.length c')).setCell ⟨Qb,0,none⟩ qv'):=fun i hi _=>(Qad _ Qb 0 _ (by omega)).trans (Qad w Bb 0 _ (by omega))
 have hne:∀x,some x≠ob→some x≠ob':=fun x hx=>by
  rcases hob with e|e
  ·rw[e];simp
  ·rw[e];exact hx
 have hpg:OwnP w w0.heap.size 47 pv pages (PBk w0.heap.size (Bb::Hb::Qb::X) ob'):=H.pg.mono (fun i hi _=>⟨hi.1,hi.2.1,hne i hi.2.2⟩)
 refine⟨(H.bl.setCell (p:=⟨Bb,0,none⟩) gB.1 _).setCell (p:=⟨Qb,0,none⟩) gQ.1 _,?_,hbs.keep hold (by simp),(H.hb.other n3 _ _).other n2 _ _,?_,hq.keptA hold (fun g hg' _=>?_),(hpg.set Bb 0 _ (fun i hi e=>hi.2.1 (by simp[e]))).set Qb 0 _ (fun i hi e=>hi.2.1 (by simp[e])),H.nd,fun y hy=>⟨(H.ge y hy).1,by have:=(H.ge y hy).2.1;simpa using this,hne y (H.ge y hy).2.2⟩⟩
 ·have:=(H.bb.set 0 (.slice A' body'.length c')).other n1 0 qv';simpa using this
 ·have:=(H.qb.other n4 0 (.slice A' body'.length c')).set 0 qv';simpa using this
 ·refine(Qad _ Qb 0 _ (fun e=>?_)).trans (Qad w Bb 0 _ (fun e=>?_))
  ·exact hne Qb gQ.2.2 (e▸hg'.symm)
  ·exact hne Bb gB.2.2 (e▸hg'.symm)
end
theorem pageE_h {body:List LineP}{notes:List (List LineP)}{h:Int}(hE:QaQ body notes h=0):4≤h∧h≤100:=by
 unfold QaQ at hE;split at hE
 ·exact absurd hE (by decide)
 ·omega
theorem nextN_refs (n:Nat):∀(l:List Int) (next k:Int),0≤next→Qa0 n next l=some k→∀x∈l,0≤x∧x<n
 |[],_,_,_,_=>by simp
 |y::l,next,k,h0,h=>by
  rw[Qa0] at h;split at h
  ·cases h
  ·rename_i hy;intro x hx;rcases List.mem_cons.1 hx with rfl|hx
   ·omega
   ·exact nextN_refs n l (next+1) k (by omega) h x hx
def vlen:Value→Nat
 |.slice _ n _=>n
 |_=>0
theorem setPages_nil (notes:List (List LineP))(h f:Nat):setPages notes h f [] []=[]:=by
 cases f with
 |zero=>rfl
 |succ f=>rw[setPages,if_pos ⟨rfl,rfl⟩]
theorem OwnP.bd {α:Type}[Rep α]{w:World}{base B:Nat}{e:TypeId}{v:Value}{l:List α}(h:OwnP w base e v l (fun b=>B≤b)):Own w base e v (l.map (Bd.mk:α→Bd α B)):=
 h.own.conv (l.map (Bd.mk:α→Bd α B)) (by rw[qM,qM]) rfl (fun i h1 h2 es he=>by
  rw[List.getElem_map] at he ⊢
  exact he)
def Refs (body:List LineP)(notes:List (List LineP)):Prop:=∀x∈body,∀n∈x.notes,0≤n∧n<notes.length
theorem pageE_refs {body:List LineP}{notes:List (List LineP)}{h:Int}(hE:QaQ body notes h=0):Refs body notes:=by
 unfold QaQ at hE;split at hE
 ·exact absurd hE (by decide)
 ·split at hE
  ·exact absurd hE (by decide)
  ·split at hE
   ·exact absurd hE (by decide)
   ·rename_i k hk;intro x hx n hn;exact nextN_refs _ _ 0 k (Int.le_refl _) hk n (List.mem_flatMap.2 ⟨x,hx,hn⟩)
theorem wp_que {P:Program}{α:Type}[Rep α]{o:Oper}{a:Act}{K:Act→World→Prop}{Q:Exit→Act→World→Prop}{w:World}(s x:Operand)(t:TypeId) (ho:o.op=.call {callee:=.builtin .append,args:=#[s,x],argTypes:=#[t,t]}) (base:Nat) (e:TypeId) (z:Value) (bytes:Nat) (ht:P.underlying t=some (.slice e)) (hinfo:(P.info? e).map (fun i=>(i.zero,i.size,i.bytes))=some (some z,Rep.size α,bytes)) (hzs:z.cells.size=Rep.size α) (hsz:0<Rep.size α) (ob:Option Nat) (v:Value) (l:List α) (hs:a.eval s=v) (hown:Que w base e ob v l) (A:Option Addr) (c n:Nat) (m:List α) (hx:a.eval x=.slice A n c) (hn:m.length=n) (S:Nat→Prop) (hm:Sl w S A c m) (hS:∀i,S i→i<w.heap.size→some i≠ob) (hS2:∀i,S i→i<w.heap.size) (hbytes:(l.length+n)*bytes≤140737488355328) (hml:l.length+n≤9223372036854775807) (hbase:base≤w.heap.size) (h:∀v' w' ob',Que w' base e ob' v' (l++m)→w.grownBy w' ob→(ob'=ob∨ob'=some w.heap.size)→K (a.put o.dst v') w'):o.wp P a w K Q:=by
 obtain⟨v',w',ob',hrun,h2,h3,h4⟩:=run_que (P:=P) w base t o.type e z bytes ht hinfo hzs hsz ob v l hown A c n m hn S hm hS hS2 hbytes hml hbase;unfold Oper.wp execOp;simp only[ho,resolve,invoke,builtin,Sem.run_bind,Sem.run_pure,Result.andThen_ok,List.map_toArray,List.map_cons,List.map_nil,hs,hx,hrun];exact h v' w' ob' h2 h3 h4
theorem page_info:(Tryd.prog.info? 47).map (fun i=>(i.zero,i.size,i.bytes))=some (some (.agg #[.int .i64 0,.int .i64 0,.int .i64 0,.int .i64 0,.slice none 0 0,.slice none 0 0]),6,80):=by kernel_rfl
def SP.up {α:Type}[Rep α](B:Nat)(e:TypeId)(l:List α):SP:=⟨fun v w=>OwnP w B e v l (fun b=>B≤b),fun _ _ _ h hb=>h.below hb⟩
theorem Own.up {α:Type}[Rep α]{w:World}{base B:Nat}{e:TypeId}{v:Value}{l:List α}(h:Own w base e v (l.map (Bd.mk:α→Bd α base)))(hB:B≤base):OwnP w B e v l (fun b=>B≤b):=
 ⟨(h.conv (l.map (Av.mk:α→Av α (fun b=>B≤b))) (by rw[qM,qM]) rfl (fun i h1 h2 es he=>by
   rw[List.getElem_map] at he ⊢
   exact Rep.mono (α:=α) he (fun b hb _=>⟨hb.1,Nat.le_trans hB hb.2⟩))).re hB,fun g hg=>Nat.le_trans hB (h.lt g hg).1⟩
theorem OwnP.rep {α:Type}[Rep α]{w:World}{B:Nat}{e:TypeId}{v:Value}{l:List α}{P S:Nat→Prop}(h:OwnP w B e v l P)(hl:l.length<9223372036854775808)(hS:∀i,P i→i<w.heap.size→S i):Rep.R w S [v] l:=by
 obtain⟨A,c,rfl,hs⟩:=h.sl;exact⟨A,c,rfl,hs.mono hS,hl⟩
def SP.pg (B:Nat)(x y:List LineP):SP:=⟨fun v w=>∃b va vb,v=.slice (some ⟨b,0,none⟩) 1 1∧B≤b∧b<w.heap.size∧w.heap[b]? =some (.cells #[.int .i64 0,.int .i64 0,.int .i64 0,.int .i64 0,va,vb] 47 (0,0))∧Rep.R w (fun i=>B≤i) [va] x∧Rep.R w (fun i=>B≤i) [vb] y,fun _ _ _ h hb=>by
 obtain⟨b,va,vb,h1,h2,h3,h4,h5,h6⟩:=h
 exact⟨b,va,vb,h1,h2,by have:=hb.size;omega,by rw[hb.block b h3];exact h4,Rep.keep h5 (Kept.all hb),Rep.keep h6 (Kept.all hb)⟩⟩
theorem Qbv (notes:List (List LineP))(h:Nat):∀(f:Nat) (body queue:List LineP),(setPages notes h f body queue).length≤f
 |0,_,_=>Nat.le_refl _
 |f+1,body,queue=>by
  rw[setPages];split
  ·exact Nat.zero_le _
  ·have:=Qbv notes h f (body.drop (fillP notes h body 0 (min queue.length (h-1)) queue).1) ((fillP notes h body 0 (min queue.length (h-1)) queue).2.2.drop (fillP notes h body 0 (min queue.length (h-1)) queue).2.1);simp only[qC];omega
theorem pages_step {notes:List (List LineP)}{h f ln sh:Nat}{bd qu qu1:List LineP}(h4:4≤h)(hf:Qag bd notes+qu.length≤f)(hn:¬(bd.length=0∧qu.length=0))(hd:fillP notes h bd 0 (min qu.length (h-1)) qu=(ln,sh,qu1)):
 Qag (bd.drop ln) notes+(qu1.drop sh).length≤f-1∧setPages notes h f bd qu=⟨0,0,0,0,bd.take ln,qu1.take sh⟩::setPages notes h (f-1) (bd.drop ln) (qu1.drop sh):=by
 have hn2:¬(bd=[]∧qu=[]):=fun⟨h1,h2⟩=>hn ⟨by rw[h1];rfl,by rw[h2];rfl⟩
 have h1:=Qc5 notes h h4 bd qu hn2;simp only[hd] at h1;obtain⟨f',rfl⟩:∃f',f=f'+1:=⟨f-1,by omega⟩;refine⟨by omega,?_⟩;rw[setPages,if_neg hn2];simp only[hd,Nat.add_sub_cancel]
theorem kept_two {B:Nat}{w a b:World}(h1:Below B w a)(h2:Below B w b):Kept (fun i=>i<B) a b:=fun i hi _=>(h2.block i hi).trans (h1.block i hi).symm
theorem Sl.old {α:Type}[Rep α]{B:Nat}{w w':World}{A:Option Addr}{c:Nat}{l:List α}(h:Sl w (fun b=>b<B) A c l)(hk:Kept (fun b=>b<B) w w')(hB:B≤w'.heap.size):Sl w' (fun b=>b<B) A c l:=by
 refine⟨h.1,h.2.1,fun hn=>?_⟩;obtain⟨b,o,e,hb,hlt,hx⟩:=h.2.2 hn;refine⟨b,o,e,hb,Nat.lt_of_lt_of_le hb hB,fun i hi=>?_⟩;obtain⟨es,hr,hc⟩:=hx i hi;exact⟨es,Rep.keep hr hk,fun j u hu=>hk.cell hb (hc j u hu)⟩
theorem fits_get {h l s q:Nat}{body:List LineP}(hf:QbY h l s q body=true):∃hlt:l<body.length,Qb2 h l s q body[l]=true:=by
 unfold QbY at hf;by_cases hlt:l<body.length
 ·rw[qG hlt] at hf;exact⟨hlt,hf⟩
 ·rw[List.getElem?_eq_none (by omega)] at hf;cases hf
theorem fillP_go {notes:List (List LineP)}{h l s:Nat}{body queue:List LineP}(hlt:l<body.length)(hf:Qb2 h l s queue.length body[l]=true):
 fillP notes h (body.drop l) l s queue=fillP notes h (body.drop (l+1)) (l+1) (Qbs h l s (queue++Qaa notes body[l]).length) (queue++Qaa notes body[l]):=by
 rw[List.drop_eq_getElem_cons hlt,QbP,if_pos hf]
theorem fillP_stop {notes:List (List LineP)}{h l s:Nat}{body queue:List LineP}(hf:QbY h l s queue.length body=false):fillP notes h (body.drop l) l s queue=(l,s,queue):=by
 unfold QbY at hf;by_cases hlt:l<body.length
 ·rw[qG hlt] at hf;have hf:Qb2 h l s queue.length body[l]=false:=hf;rw[List.drop_eq_getElem_cons hlt,QbP,if_neg (by rw[hf];simp)]
 ·rw[List.drop_of_length_le (by omega)];rfl
theorem shown_step {h l s q q2:Nat}{x:LineP}(hf:Qb2 h l s q x=true)(hi:s=0→q=0)(hx:x.notes=[]→q2=q)(hlt:s<q2):
 0≤Qce h (l+1) s-1+((min s 1:Nat):Int)∧(s:Int)+min ((q2:Int)-s) (Qce h (l+1) s-1+((min s 1:Nat):Int))=((Qbs h l s q2:Nat):Int)∧1≤Qbs h l s q2:=by
 unfold Qbs Qce;rw[if_pos hlt];unfold Qb2 Qce at hf;split at hf
 ·rename_i hn;have:=hx hn;have:=of_decide_eq_true hf;omega
 ·simp only[Bool.and_eq_true,decide_eq_true_eq] at hf;omega
theorem notes_small {notes:List (List LineP)}(h:∀n∈notes,Qbe n)(x:LineP):Qbe (Qaa notes x):=by
 intro y hy;unfold Qaa at hy;obtain⟨n,-,hn⟩:=List.mem_flatMap.1 hy;rw[List.getD_eq_getElem?_getD] at hn;by_cases hk:n.toNat<notes.length
 ·rw[qG hk] at hn;exact h _ (List.getElem_mem hk) y hn
 ·rw[List.getElem?_eq_none (by omega)] at hn;cases hn
theorem take_all {notes:List (List LineP)}{bd:List LineP}{l:Nat}(h:l<bd.length):(bd.take (l+1)).flatMap (Qaa notes)=(bd.take l).flatMap (Qaa notes)++Qaa notes bd[l]:=by
 rw[qT h,List.flatMap_append];simp
def Qbj (notes:List (List LineP))(x:LineP)(j:Nat):List LineP:=(x.notes.take j).flatMap fun n=>notes.getD n.toNat []
theorem noteTo_step {notes:List (List LineP)}{x:LineP}{j:Nat}(h:j<x.notes.length)(hk:x.notes[j].toNat<notes.length):Qbj notes x (j+1)=Qbj notes x j++notes[x.notes[j].toNat]:=by
 unfold Qbj;rw[qT h,List.flatMap_append];simp[qG hk]
theorem noteTo_all (notes:List (List LineP))(x:LineP):Qbj notes x x.notes.length=Qaa notes x:=by unfold Qbj Qaa;rw[List.take_length]
theorem noteTo_le (notes:List (List LineP))(x:LineP)(j:Nat):(Qbj notes x j).length≤(Qaa notes x).length:=by
 have h:Qaa notes x=Qbj notes x j++(x.notes.drop j).flatMap fun n=>notes.getD n.toNat []:=by
  unfold Qbj Qaa;rw[←List.flatMap_append,List.take_append_drop]
 rw[h,qA];omega
theorem Qdf (notes:List (List LineP))(n:Nat):∀(l:List Int) (next k:Int),0≤next→n=notes.length→Qa0 n next l=some k→(l.flatMap fun q=>notes.getD q.toNat []).length≤((notes.drop next.toNat).flatten).length
 |[],_,_,_,_,_=>Nat.zero_le _
 |q::l,next,k,h0,hn,h=>by
  rw[Qa0] at h;split at h
  ·cases h
  ·rename_i hq;have ih:=Qdf notes n l (next+1) k (by omega) hn h;have hlt:next.toNat<notes.length:=(by omega);have e:q=next:=by omega
   subst e;rw[List.drop_eq_getElem_cons hlt,List.flatMap_cons,List.flatten_cons,qA,qA,List.getD_eq_getElem?_getD,qG hlt];rw[show(q+1).toNat=q.toNat+1 by omega] at ih;simpa using ih
theorem Qb7 (notes:List (List LineP)):∀body:List LineP,Qag body notes=body.length+(body.flatMap (Qaa notes)).length
 |[]=>rfl
 |x::body=>by
  have:=Qb7 notes body;unfold Qag at*;rw[List.map_cons,List.sum_cons,this,List.flatMap_cons,qA,qC];omega
theorem Qcf {body:List LineP}{notes:List (List LineP)}{h:Int}(hE:QaQ body notes h=0):Qag body notes≤body.length+notes.flatten.length:=by
 rw[Qb7]
 have e:body.flatMap (Qaa notes)=(body.flatMap (·.notes)).flatMap fun q=>notes.getD q.toNat []:=by
  rw[List.flatMap_assoc];rfl
 rw[e];unfold QaQ at hE;split at hE
 ·exact absurd hE (by decide)
 ·split at hE
  ·exact absurd hE (by decide)
  ·split at hE
   ·exact absurd hE (by decide)
   ·rename_i k hk;have:=Qdf notes notes.length _ 0 k (Int.le_refl _) rfl hk;simpa using this
set_option maxRecDepth 100000 in
theorem pset_any (A B:Option Addr)(c d:Nat)(body:List LineP)(notes:List (List LineP))(h:Int)(w:World)(ha:Sl w (fun b=>b<w.heap.size) A c body)(hb:Sl w (fun b=>b<w.heap.size) B d notes)(hI:I64 h)(hln:notes.length≤1048576) (hall:body.length+notes.flatten.length≤1048576) (hsm:Qbe body) (hsn:∀n∈notes,Qbe n):
 Calls Tryd.prog 51 #[.slice A body.length c,.slice B notes.length d,.int .i64 h] w fun e w'=>∃v,e=.returned (.tuple #[v,.int .i64 (QaQ body notes h)])∧ (QaQ body notes h=0→Own w' w.heap.size 47 v ((setPages notes h.toNat (Qag body notes) body []).map (Bd.mk:PageP→Bd PageP w.heap.size)))∧(QaQ body notes h≠0→v=.slice none 0 0)∧Below w.heap.size w w':=by
 have HC:Hid (∀W,Below w.heap.size w W→Calls Tryd.prog 66 #[.slice A body.length c,.slice B notes.length d,.int .i64 h] W fun e w'=>e=.returned (.int .i64 (QaQ body notes h))∧Below W.heap.size W w'):=
  Lh (fun W hW=>pagecheck_any A B c d body notes h W (ha.to hW) (hb.to hW) hln)
 have HA:=Lh ha;have HBn:=Lh hb;have HSM:=Lh hsm;have HSN:=Lh hsn;have HB0:Hid (Below w.heap.size w ((w.alloc (.cells #[.slice A body.length c] 42)).alloc (.cells #[.int .i64 h] 3))):=Lh ((bR.alloc nL _).alloc (by simp) _);have HBB:Hid (ABox ((w.alloc (.cells #[.slice A body.length c] 42)).alloc (.cells #[.int .i64 h] 3)) w.heap.size 42 [.slice A body.length c]):=Lh ((Below.heap_alloc _ _ _ (by simp)).trans (heap_alloc_new w _));have HHB:Hid (ABox ((w.alloc (.cells #[.slice A body.length c] 42)).alloc (.cells #[.int .i64 h] 3)) (w.heap.size+1) 3 [.int .i64 h]):=Lh (QaU (by simp));have hbb:=HBB.out.cell 0 rfl;have hhb:=HHB.out.cell 0 rfl;have hsz0:((w.alloc (.cells #[.slice A body.length c] 42)).alloc (.cells #[.int .i64 h] 3)).heap.size=w.heap.size+2:=by simp
 clear ha hb hsm hsn;by_cases hE:QaQ body notes h=0
 ·obtain⟨hn,rfl⟩:∃hn:Nat,h=(hn:Int):=⟨h.toNat,by have:=pageE_h hE;omega⟩;have hh:=pageE_h hE;have h4:4≤hn:=(by omega);have h100:hn≤100:=(by omega);have HREF:=Lh (pageE_refs hE);have hall:Qag body notes≤1048576:=Nat.le_trans (Qcf hE) hall;have HE:=Lh hE;simp only[hE] at HC ⊢;rw[Int.toNat_natCast];clear hE hh;go_enter Tryd.func51,Tryd.ntmps51;go_wp2_with (first|(go_at_call 66;refine(HC.out _ HB0.out).mono ?_;rintro e w2 ⟨rfl,hb2⟩)|fail);have hqb0:ABox (w2.alloc (.cells #[.slice none 0 0] 42)) w2.heap.size 42 [.slice none 0 0]:=heap_alloc_new w2 _;have hbw2:Below w.heap.size w w2:=HB0.out.trans (hb2.mono HB0.out.size);have hz2:w.heap.size+2≤w2.heap.size:=(by have:=hb2.size;omega);have hba:Below w2.heap.size w2 (w2.alloc (.cells #[.slice none 0 0] 42)):=bR.alloc nL _;have HP0:Hid (PO w (w2.alloc (.cells #[.slice none 0 0] 42)) w.heap.size (w.heap.size+1) w2.heap.size [] A c body hn none (.slice none 0 0) [] (.slice none 0 0) []):=Lh
   ⟨hbw2.trans (hba.mono hbw2.size),(HBB.out.to hb2).to hba,(HA.out.keep (Kept.all hbw2) hbw2.size).keep (Kept.all hba) hba.size,(HHB.out.to hb2).to hba,hqb0,Que.nil _ _ _,OwnP.nil _ _ _ _,by simp;omega,fun x hx=>by
    have hq:x=w.heap.size∨x=w.heap.size+1∨x=w2.heap.size:=(by simpa using hx)
    refine⟨?_,?_,by simp⟩
    ·rcases hq with h|h|h<;>omega
    ·rw[World.size_alloc];rcases hq with h|h|h<;>omega⟩
  obtain⟨Qb,hQb⟩:∃Qb,w2.heap.size=Qb:=⟨_,rfl⟩;rw[hQb] at HP0 ⊢;have HN:∃N,(setPages notes hn (Qag body notes) body []).length=N:=⟨_,rfl⟩;obtain⟨N,hN⟩:=HN;have HNE:=Lh hN;clear hqb0 hbw2 hz2 hba hb2 hsz0 hbb hhb HBB HHB HB0 HC hN hQb hI
  go_loopw [9] (fun v9 wr=>∃(A':Option Addr) (c':Nat) (bd:List LineP) (ob:Option Nat) (qv:Value) (qu:List LineP) (pgs:List PageP) (f:Nat),Hid (PO w wr w.heap.size (w.heap.size+1) Qb [] A' c' bd hn ob qv qu v9 pgs)∧Hid (Qag bd notes+qu.length≤f∧f≤1048576)∧ Hid (pgs++setPages notes hn f bd qu=setPages notes hn (Qag body notes) body [])∧Hid (Qbe bd∧Qbe qu∧Refs bd notes)) (fun v9 _=>N-vlen v9)
  (case atStart=>exact⟨A,c,body,none,_,[],[],_,HP0,Lh ⟨Nat.le_refl _,hall⟩,Lh rfl,Lh ⟨HSM.out,fun x hx=>absurd hx (by simp),HREF.out⟩⟩);case round=>
   clear HP0 w2;obtain⟨A',c',bd,ob,qv,qu,pgs,f,HP,HF,HT,HS⟩:=hrel;have hbb:=HP.out.bb.cell 0 rfl;obtain⟨Aq,cq,hqv,-,-⟩:=HP.out.q.len;rw[qM] at hqv;subst hqv;have hqb:=HP.out.qb.cell 0 rfl;have hhb:=HP.out.hb.cell 0 rfl;go_upto_region 6 with(fail);go_cut [32] from 25 to 94 (fun v32 wx=>v32=.bool (!(decide (bd.length=0)&&decide (qu.length=0)))∧wx=wr);case first=>
    by_cases h1:bd.length=0
    ·have H1:=Lh h1;by_cases h2:qu.length=0
     ·have H2:=Lh h2;rw[h1] at hbb;rw[h2] at hqb;clear h1 h2;go_wp2_with fail;go_meet;exact⟨by rw[decide_eq_true H1.out,decide_eq_true H2.out];rfl,rfl⟩
     ·have H2:=Lh h2;have hg:0<qu.length:=(by omega);rw[h1] at hbb;clear h1 h2;go_wp2_with fail;go_meet;exact⟨by rw[decide_eq_true H1.out,decide_eq_false H2.out];rfl,rfl⟩
    ·have H1:=Lh h1;have hg:0<bd.length:=(by omega);clear h1;go_wp2_with fail;go_meet;exact⟨by rw[decide_eq_false H1.out];rfl,rfl⟩
   case rest=>
    obtain⟨rfl,rfl⟩:=hcut;by_cases hne:bd.length=0∧qu.length=0
    ·rw[decide_eq_true hne.1,decide_eq_true hne.2]
     have hpl:Hid (Own wc w.heap.size 47 u9 ((setPages notes hn (Qag body notes) body []).map (Bd.mk:PageP→Bd PageP w.heap.size))∧Below w.heap.size w wc):=Lh (by
      have h1:=List.eq_nil_of_length_eq_zero hne.1
      have h2:=List.eq_nil_of_length_eq_zero hne.2
      have h3:=HT.out
      rw[h1,h2,setPages_nil,List.append_nil] at h3
      rw[←h3]
      exact⟨(HP.out.pg.mono (Q:=fun b=>w.heap.size≤b) (fun i hi _=>hi.1)).bd,HP.out.bl⟩)
     clear hne;go_wp2_with fail;go_ret2;exact⟨_,rfl,fun _=>hpl.out.1,fun h=>absurd rfl h,hpl.out.2⟩
    ·have hb0:(!(decide (bd.length=0)&&decide (qu.length=0)))=true:=by
      rw[Bool.not_eq_true',Bool.and_eq_false_iff];by_cases h:bd.length=0
      ·exact .inr (decide_eq_false fun h2=>hne ⟨h,h2⟩)
      ·exact .inl (decide_eq_false h)
     rw[hb0];have HNE1:=Lh hne;clear hne hb0;go_upto_region 7 with(fail);obtain⟨wm,rfl⟩:∃wm:World,wm=wc:=⟨_,rfl⟩;go_cut [11,12] from 25 to 94 (fun v11 v12 wx=>∃Lb Sb:Nat,v11=.pointer (some ⟨Lb,0,none⟩)∧v12=.pointer (some ⟨Sb,0,none⟩)∧Hid (Lb≠Sb∧wm.heap.size≤Lb∧wm.heap.size≤Sb)∧Hid (ABox wx Lb 3 [.int .i64 0])∧Hid (ABox wx Sb 3 [.int .i64 ((min qu.length (hn-1):Nat):Int)])∧Hid (Below wm.heap.size wm wx));case first=>
      refine Qay (fun w'=>w'.cell? ⟨Qb,0,none⟩=some (.slice Aq qu.length cq)∧w'.cell? ⟨w.heap.size+1,0,none⟩=some (.int .i64 (hn:Int))) (fun i=>decide (i<8)) (by kernel_rfl) ?_;have hb0:Hid (Below wm.heap.size wm wm.drew):=Lh bR.drew;have hS0:wm.drew.cell? ⟨Qb,0,none⟩=some (.slice Aq qu.length cq)∧wm.drew.cell? ⟨w.heap.size+1,0,none⟩=some (.int .i64 (hn:Int)):=⟨hqb,hhb⟩;generalize wm.drew=W0 at*;have HQl:=World.block_lt_of_cell? W0 ⟨Qb,0,none⟩ hS0.1;have HHl:=World.block_lt_of_cell? W0 ⟨w.heap.size+1,0,none⟩ hS0.2;have HSP:Hid (∀W,Below W0.heap.size W0 W→W.cell? ⟨Qb,0,none⟩=some (.slice Aq qu.length cq)∧W.cell? ⟨w.heap.size+1,0,none⟩=some (.int .i64 (hn:Int))):=Lh (fun W hW=>⟨(hW.cell (p:=⟨Qb,0,none⟩) HQl).trans hS0.1,(hW.cell (p:=⟨w.heap.size+1,0,none⟩) HHl).trans hS0.2⟩);clear HQl HHl;obtain⟨mv,hmv⟩:∃mv:Int,min (qu.length:Int) (IntKind.i64.wrap ((hn:Int)-1))=mv:=⟨_,rfl⟩;have HMV:Hid (((min qu.length (hn-1):Nat):Int)=mv):=Lh (by rw[←hmv,IntWalk.i64_in _ (by omega)];omega);refine tE 0 ⟨some 33,Op.load 42 (.tmp 10),42,_,_,_⟩ ?_ rfl ?zq0 (hS0) ?zq1;(case zq0=>intro wS hSw;(have hq:=hSw.1);clear hSw;go_simp;(try with_reducible rfl));(all_goals try go_frame);refine tE 1 ⟨some 34,Op.call {callee:=Callee.builtin Builtin.len,args:=#[Operand.tmp 33],argTypes:=#[42]},3,_,_,_⟩ ?_ rfl ?zq2 (hS0) ?zq3;(case zq2=>intro _ s;clear s;go_simp;(try with_reducible rfl));(all_goals try go_frame);refine tE 2 ⟨some 35,Op.load 3 (.tmp 5),3,_,_,_⟩ ?_ rfl ?zq4 (hS0) ?zq5;(case zq4=>intro wS hSw;(have hq:=hSw.2);clear hSw;go_simp;(try with_reducible rfl));(all_goals try go_frame);refine tE 3 ⟨some 36,Op.binOp BinOp.sub 3 (.tmp 35) (Operand.const (Value.int IntKind.i64 1)) 3,3,_,_,_⟩ ?_ rfl ?zq6 (hS0) ?zq7;(case zq6=>intro _ s;clear s;go_simp;(try with_reducible rfl));(all_goals try go_frame);refine tE 4 ⟨some 37,Op.call {callee:=Callee.builtin Builtin.min,args:=#[Operand.tmp 34,Operand.tmp 36],argTypes:=#[3,3]},3,_,_,_⟩ ?_ rfl ?zq8 (hS0) ?zq9;(case zq8=>intro _ s;clear s;go_simp;(try with_reducible rfl));(all_goals try go_frame);refine wpAnyD_two (i:=5) (j:=6) (oi:=⟨some 11,Op.alloc 3,0,_,_,_⟩) (oj:=⟨some 12,Op.alloc 3,0,_,_,_⟩) (by kernel_rfl) rfl rfl (by rfl) (by rfl) (fun K hK=>?_) (fun K hK=>?_)
      ·go_simp;refine hK _ _ (fun _=>?_) ?_
       ·exact(HSP.out _ (bR.alloc nL _))
       clear hK K;(try go_frame);refine tD 6 ⟨some 12,Op.alloc 3,0,_,_,_⟩ rfl fun K hK=>?_
       go_simp;refine hK _ _ (fun _=>?_) ?_
       ·exact(HSP.out _ ((bR.alloc nL _).alloc (by simp) _))
       clear hK K;(try go_frame);refine tD 7 ⟨none,Op.store 3 (.tmp 11) (Operand.const (Value.int IntKind.i64 0)),0,_,_,_⟩ rfl fun K hK=>?_
       go_simp;refine hK _ _ (fun _=>?_) ?_
       ·exact(HSP.out _ ((bR.alloc nL _).alloc (by simp) _))
       clear hK K;(try simp only[Act.put]);refine tD 8 ⟨none,Op.store 3 (.tmp 12) (.tmp 37),0,_,_,_⟩ rfl fun K hK=>?_
       go_simp;refine hK _ _ (fun h=>absurd h (by decide)) ?_;clear hK K;(try simp only[Act.put]);refine Qam (by kernel_rfl) ?_ _;have hx0:ABox ((W0.alloc (.cells #[.int .i64 0] 3)).alloc (.cells #[.int .i64 mv] 3)) W0.heap.size 3 [.int .i64 0]:=(Below.heap_alloc _ _ _ (by simp)).trans (heap_alloc_new W0 _);have hx1:ABox ((W0.alloc (.cells #[.int .i64 0] 3)).alloc (.cells #[.int .i64 mv] 3)) (W0.heap.size+1) 3 [.int .i64 mv]:=QaU (by simp);have hbb2:Below W0.heap.size W0 ((W0.alloc (.cells #[.int .i64 0] 3)).alloc (.cells #[.int .i64 mv] 3)):=((Below.refl W0.heap.size W0).alloc nL (.cells #[.int .i64 0] 3)).alloc (by simp) (.cells #[.int .i64 mv] 3);unfold Exit.then;go_wp2_with fail;go_meet;exact⟨W0.heap.size,(W0.heap.size+1),rfl,rfl,Lh ⟨by omega,by have:=hb0.out.size;omega,by have:=hb0.out.size;omega⟩,Lh hx0,Lh (by rw[HMV.out];exact hx1),Lh (hb0.out.trans (hbb2.mono hb0.out.size))⟩
      ·go_simp;refine hK _ _ (fun _=>?_) ?_
       ·exact(HSP.out _ (bR.alloc nL _))
       clear hK K;(try go_frame);refine tD 5 ⟨some 11,Op.alloc 3,0,_,_,_⟩ rfl fun K hK=>?_
       go_simp;refine hK _ _ (fun _=>?_) ?_
       ·exact(HSP.out _ ((bR.alloc nL _).alloc (by simp) _))
       clear hK K;(try go_frame);refine tD 7 ⟨none,Op.store 3 (.tmp 11) (Operand.const (Value.int IntKind.i64 0)),0,_,_,_⟩ rfl fun K hK=>?_
       go_simp;refine hK _ _ (fun _=>?_) ?_
       ·exact(HSP.out _ ((bR.alloc nL _).alloc (by simp) _))
       clear hK K;(try simp only[Act.put]);refine tD 8 ⟨none,Op.store 3 (.tmp 12) (.tmp 37),0,_,_,_⟩ rfl fun K hK=>?_
       go_simp;refine hK _ _ (fun h=>absurd h (by decide)) ?_;clear hK K;(try simp only[Act.put]);refine Qam (by kernel_rfl) ?_ _;have hx0:ABox ((W0.alloc (.cells #[.int .i64 mv] 3)).alloc (.cells #[.int .i64 0] 3)) W0.heap.size 3 [.int .i64 mv]:=(Below.heap_alloc _ _ _ (by simp)).trans (heap_alloc_new W0 _);have hx1:ABox ((W0.alloc (.cells #[.int .i64 mv] 3)).alloc (.cells #[.int .i64 0] 3)) (W0.heap.size+1) 3 [.int .i64 0]:=QaU (by simp);have hbb2:Below W0.heap.size W0 ((W0.alloc (.cells #[.int .i64 mv] 3)).alloc (.cells #[.int .i64 0] 3)):=((Below.refl W0.heap.size W0).alloc nL (.cells #[.int .i64 mv] 3)).alloc (by simp) (.cells #[.int .i64 0] 3);unfold Exit.then;go_wp2_with fail;go_meet;exact⟨(W0.heap.size+1),W0.heap.size,rfl,rfl,Lh ⟨by omega,by have:=hb0.out.size;omega,by have:=hb0.out.size;omega⟩,Lh hx1,Lh (by rw[HMV.out];exact hx0),Lh (hb0.out.trans (hbb2.mono hb0.out.size))⟩
     case rest=>
      obtain⟨Lb,Sb,rfl,rfl,HNS,HLB,HSB,HBW⟩:=hcut;have hba:Below wc.heap.size wc (wc.alloc (.cells #[Qc3 (w.heap.size+1) Lb Sb] 122)):=bR.alloc nL _;have HRB:Hid (ABox (wc.alloc (.cells #[Qc3 (w.heap.size+1) Lb Sb] 122)) wc.heap.size 122 [Qc3 (w.heap.size+1) Lb Sb]):=Lh (heap_alloc_new wc _);have HLB1:=Lh (HLB.out.to hba);have HSB1:=Lh (HSB.out.to hba);have HP1:Hid (PO w (wc.alloc (.cells #[Qc3 (w.heap.size+1) Lb Sb] 122)) w.heap.size (w.heap.size+1) Qb [Lb,Sb,wc.heap.size] A' c' bd hn ob (.slice Aq qu.length cq) qu u9 pgs):=
       Lh (HP.out.more (HBW.out.trans (hba.mono HBW.out.size)) (fun y hy=>by
        have h1:=HLB.out.lt
        have h2:=HSB.out.lt
        have h3:=HNS.out
        have h4:=HBW.out.size
        have hq:y=Lb∨y=Sb∨y=wc.heap.size:=(by simpa using hy)
        rw[World.size_alloc]
        rcases hq with h|h|h<;>omega) (by
        have h1:=HLB.out.lt
        have h2:=HSB.out.lt
        have h3:=HNS.out
        simp
        omega))
      unfold Qc3 at HRB HP1 HLB1 HSB1 hba;clear hba;go_wp2_with fail;obtain⟨Rb,hRb⟩:∃Rb,wc.heap.size=Rb:=⟨_,rfl⟩;rw[hRb] at HP1 HRB ⊢;generalize wc.alloc _=w3 at*;have HN3:Hid (Lb<w3.heap.size):=Lh HLB1.out.lt;clear HLB HSB HBW HP hbb hqb hhb hRb HNS;clear wm wc
      go_loopw [17] (fun _ wr=>∃(ln sh:Nat) (ob':Option Nat) (qv:Value) (qu':List LineP),Hid (PO w wr w.heap.size (w.heap.size+1) Qb [Lb,Sb,Rb] A' c' bd hn ob' qv qu' u9 pgs)∧Hid (ABox wr Lb 3 [.int .i64 (ln:Int)])∧Hid (ABox wr Sb 3 [.int .i64 (sh:Int)])∧ Hid (ABox wr Rb 122 [Qc3 (w.heap.size+1) Lb Sb])∧Hid (fillP notes hn (bd.drop ln) ln sh qu'=fillP notes hn bd 0 (min qu.length (hn-1)) qu)∧Hid (ln≤bd.length∧sh≤qu'.length∧qu'=qu++(bd.take ln).flatMap (Qaa notes)∧(sh=0→qu'.length=0))) (fun _ wr=>bd.length-(intOf ((wr.cell? ⟨Lb,0,none⟩).getD undef)).toNat)
      (case atStart=>exact⟨0,min qu.length (hn-1),ob,_,qu,HP1,HLB1,HSB1,HRB,Lh rfl,Lh ⟨Nat.zero_le _,Nat.min_le_left _ _,by simp,by omega⟩⟩);case round=>
       clear HP1 HLB1 HSB1 HRB HN3 w3;obtain⟨ln,sh,ob1,qv1,qu1,HP,HL,HSn,HR,HFI,HI⟩:=hrel;obtain⟨Aq1,cq1,hqv,-,-⟩:=HP.out.q.len;rw[qM] at hqv;subst hqv
       have HQN:Hid (qu1.length+ln≤f∧f≤1048576):=Lh (by
        have h1:=HI.out.2.2.1
        have h2:=Qa5 notes bd ln HI.out.1
        have h3:=HF.out
        rw[h1,qA]
        omega)
       have HBN:Hid (bd.length≤1048576):=Lh (by
        have h2:=Qa5 notes bd bd.length nL
        have h3:=HF.out
        omega)
       obtain⟨fb,hfb⟩:∃fb,QbY hn ln sh qu1.length bd=fb:=⟨_,rfl⟩
       have HFC:Hid (Calls Tryd.prog 68 #[.pointer (some ⟨Lb,0,none⟩),.pointer (some ⟨w.heap.size,0,none⟩),.pointer (some ⟨Rb,0,none⟩),.pointer (some ⟨Sb,0,none⟩),.pointer (some ⟨Qb,0,none⟩)] wr fun e w'=>e=.returned (.bool fb)∧Below wr.heap.size wr w'):=Lh (by
        rw[←hfb]
        exact fits_any Lb w.heap.size Rb Sb Qb (w.heap.size+1) hn ln sh qu1.length cq1 c' Aq1 A' bd wr (by omega) HI.out.1 (by have:=HBN.out;omega) (by have:=HQN.out;have:=HI.out.2.1;omega) (by have:=HQN.out;omega) (HP.out.hb.cell 0 rfl) (HL.out.cell 0 rfl) (HSn.out.cell 0 rfl) (HP.out.bb.cell 0 rfl) (HP.out.qb.cell 0 rfl) (HR.out.cell 0 rfl) (HP.out.bs.mono fun i _ h=>h))
       have HFB:=Lh hfb;clear hfb;have HU9:Hid (vlen u9=pgs.length):=Lh (by obtain⟨A9,c9,e9,-⟩:=HP.out.pg.len;rw[e9];rfl);cases fb
       ·go_upto_region 20 with(first|(go_at_call 68;refine HFC.out.mono ?_;rintro e w4 ⟨rfl,hb4⟩)|fail);have HP4:=Lh (HP.out.to hb4);have HL4:=Lh (HL.out.to hb4);have HS4:=Lh (HSn.out.to hb4);have HDN:Hid (fillP notes hn bd 0 (min qu.length (hn-1)) qu=(ln,sh,qu1)):=Lh (by rw[←HFI.out,fillP_stop HFB.out])
        have HQS:Hid (Qbe qu1):=Lh (by
         rw[HI.out.2.2.1]
         intro x hx
         rcases List.mem_append.1 hx with h|h
         ·exact HS.out.2.1 x h
         ·obtain⟨y,-,hy⟩:=List.mem_flatMap.1 h
          exact notes_small HSN.out y x hy)
        have hlnb:ln≤bd.length:=HI.out.1;have hshq:sh≤qu1.length:=HI.out.2.1;have hbc:bd.length≤c':=HP4.out.bs.1;have hqc:qu1.length≤cq1:=(by obtain⟨A9,c9,e9,h9,-⟩:=HP4.out.q.len;rw[qM] at e9;cases e9;have:=h9.1;rwa [qM] at this);clear hb4 HP HL HSn HFI HFB HFC HR;refine Qaq [4,8,10] (fun i=>if i=4 then SP.up w4.heap.size 49 (bd.take ln) else if i=8 then SP.up w4.heap.size 49 (qu1.take sh) else if i=10 then SP.pg w4.heap.size (bd.take ln) (qu1.take sh) else SP.any) 11 (by kernel_rfl) (by kernel_rfl) ?_;intro T _ g hg hgm;have q0:∀d,(g d).cell? ⟨w.heap.size,0,none⟩=some (.slice A' bd.length c'):=fun d=>(HP4.out.bb.to (hg d)).cell 0 rfl
        have q1:∀d,(g d).cell? ⟨Lb,0,none⟩=some (.int .i64 (ln:Int)):=fun d=>(HL4.out.to (hg d)).cell 0 rfl
        have q2:∀d,(g d).cell? ⟨Qb,0,none⟩=some (.slice Aq1 qu1.length cq1):=fun d=>(HP4.out.qb.to (hg d)).cell 0 rfl
        have q3:∀d,(g d).cell? ⟨Sb,0,none⟩=some (.int .i64 (sh:Int)):=fun d=>(HS4.out.to (hg d)).cell 0 rfl
        (repeat(refine QaB (by rfl) fun Kq hq=>?_;go_big_quiet_step (fail);refine wpQuiet_nil (hq _ ?_);clear hq Kq));refine Qa7 (by rfl) (by rfl) (fun d hG K Q hK=>?_) (fun v4 d hG hp Kr hr=>?_)
        ·go_simp;go_at_call 69;refine(pclone_any A' c' ln (bd.take ln) (g d) (((HP4.out.bs.keep (Kept.all (hg d)) (hg d).size).mono (fun i _ h=>h)).take ln hlnb) (by rw[qK];omega) (by have:=HBN.out;omega) (fun x hx=>HS.out.1 x (List.mem_of_mem_take hx))).mono ?_;rintro e W1 ⟨v,rfl,ho1,hb1⟩;go_simp;exact hK _ _ hb1 (show OwnP W1 _ _ _ _ _ from ho1.up (hg d).size)
        obtain⟨A5,c5,rfl,-⟩:=(show OwnP (g d) w4.heap.size 49 v4 (bd.take ln) (fun b=>w4.heap.size≤b) from hp).len;rw[show(bd.take ln).length=ln by rw[qK];omega] at hr ⊢;(try clear hp);clear hG;go_frame;refine hr _ ?_;clear hr Kr;(repeat(refine QaB (by rfl) fun Kq hq=>?_;go_big_quiet_step (fail);refine wpQuiet_nil (hq _ ?_);clear hq Kq));refine Qa7 (by rfl) (by rfl) (fun d hG K Q hK=>?_) (fun v8 d hG hp Kr hr=>?_)
        ·go_simp;go_at_call 69;refine(pclone_any Aq1 cq1 sh (qu1.take sh) (g d) (by obtain⟨A9,c9,e9,h9,-⟩:=(HP4.out.to (hg d)).q.len;rw[qM] at e9;cases e9;exact(h9.unav.take sh hshq)) (by rw[qK];omega) (by have:=HQN.out;omega) (fun x hx=>HQS.out x (List.mem_of_mem_take hx))).mono ?_;rintro e W1 ⟨v,rfl,ho1,hb1⟩;go_simp;exact hK _ _ hb1 (show OwnP W1 _ _ _ _ _ from ho1.up (hg d).size)
        obtain⟨A6,c6,rfl,-⟩:=(show OwnP (g d) w4.heap.size 49 v8 (qu1.take sh) (fun b=>w4.heap.size≤b) from hp).len;rw[show(qu1.take sh).length=sh by rw[qK];omega] at hr ⊢;(try clear hp);clear hG;go_frame;refine hr _ ?_;clear hr Kr;(repeat(refine QaB (by rfl) fun Kq hq=>?_;go_big_quiet_step (fail);refine wpQuiet_nil (hq _ ?_);clear hq Kq));refine Qa7 (by rfl) (by rfl) (fun d hG K Q hK=>?_) (fun v10 d hG hp Kr hr=>?_)
        ·have h5:=(show OwnP (g d) w4.heap.size 49 (.slice A5 ln c5) (bd.take ln) (fun b=>w4.heap.size≤b) from hG 4 (by kernel_rfl)).rep (S:=fun b=>w4.heap.size≤b) (by rw[qK];have:=HBN.out;omega) (fun i h _=>h);have h6:=(show OwnP (g d) w4.heap.size 49 (.slice A6 sh c6) (qu1.take sh) (fun b=>w4.heap.size≤b) from hG 8 (by kernel_rfl)).rep (S:=fun b=>w4.heap.size≤b) (by rw[qK];have:=HQN.out;omega) (fun i h _=>h);have H5:=Lh h5;have H6:=Lh h6;clear h5 h6;go_simp;exact hK _ _ (bR.alloc nL _) ⟨(g d).heap.size,_,_,rfl,(hg d).size,by simp,heap_alloc_new _ _,Rep.keep H5.out (Kept.all (bR.alloc nL _)),Rep.keep H6.out (Kept.all (bR.alloc nL _))⟩
        obtain⟨b10,va,vb,rfl,hq1,hq2,hq3,hq4,hq5⟩:=(show ∃b va vb,v10=.slice (some ⟨b,0,none⟩) 1 1∧_ from hp);clear hq1 hq2 hq3 hq4 hq5 va vb;(try clear hp);clear hG;go_frame;refine hr _ ?_;clear hr Kr;refine QcQ 2 (by rfl) (by rfl) (fun d hG=>?_);obtain⟨b9,va,vb,e9,hp1,hp2,hp3,hp4,hp5⟩:=(show ∃b va vb,Value.slice (some ⟨b10,0,none⟩) 1 1=.slice (some ⟨b,0,none⟩) 1 1∧w4.heap.size≤b∧b<(g d).heap.size∧(g d).heap[b]? =some (.cells #[.int .i64 0,.int .i64 0,.int .i64 0,.int .i64 0,va,vb] 47 (0,0))∧Rep.R (g d) (fun i=>w4.heap.size≤i) [va] (bd.take ln)∧Rep.R (g d) (fun i=>w4.heap.size≤i) [vb] (qu1.take sh) from hG 10);cases e9;have HPd:=Lh (HP4.out.to (hg d));have HLd:=Lh (HL4.out.to (hg d));have HSd:=Lh (HS4.out.to (hg d))
        have HFAR:Hid (∀i,w4.heap.size≤i→i<(g d).heap.size→some i≠u9.ownBlock∧PBk w.heap.size (w.heap.size::(w.heap.size+1)::Qb::[Lb,Sb,Rb]) ob1 i):=Lh (fun i hi _=>by
         refine⟨fun e=>?_,by have:=HP4.out.bl.size;omega,fun hm=>?_,fun e=>?_⟩
         ·have:=(HP4.out.pg.lt i e.symm).2;omega
         ·have:=(HP4.out.ge i hm).2.1;omega
         ·have:=(HP4.out.q.lt i e.symm).2;omega)
        have HPR:Hid (Rep.R (g d) (fun b=>some b≠u9.ownBlock) [.int .i64 0,.int .i64 0,.int .i64 0,.int .i64 0,va,vb] (⟨⟨0,0,0,0,bd.take ln,qu1.take sh⟩⟩:Av PageP (PBk w.heap.size (w.heap.size::(w.heap.size+1)::Qb::[Lb,Sb,Rb]) ob1))):=
         Lh ⟨va,vb,rfl,Rep.mono hp4 HFAR.out,Rep.mono hp5 HFAR.out⟩
        have HNN:Hid (pgs.length≤1048576):=Lh (by
         have h1:=congrArg List.length HT.out
         rw[qA] at h1
         have h2:=Qbv notes hn (Qag body notes) body []
         omega)
        clear q0 q1 q2 q3 hG hg hgm HFAR hp1 hp2 hp4 hp5 HP4 HL4 HS4;generalize g d=wx at*;clear g;refine QbJ (i:=11) (oi:=_) rfl (by kernel_rfl) (by rfl) (fun K hK=>?_);refine wp_push wx (α:=Av PageP (PBk w.heap.size (w.heap.size::(w.heap.size+1)::Qb::[Lb,Sb,Rb]) ob1)) (.tmp 77) (.tmp 87) 30 rfl w.heap.size 47 (.agg #[.int .i64 0,.int .i64 0,.int .i64 0,.int .i64 0,.slice none 0 0,.slice none 0 0]) 80 Tryd.underlying30 page_info rfl (show 0<6 by decide) u9 (pgs.map Av.mk) rfl HPd.out.pg.own b10 _ _ (0,0) _ rfl hp3 HPR.out (by rw[qM];have:=HNN.out;omega) (by rw[qM];have:=HNN.out;omega) HPd.out.bl.size _ rfl ?_;rw[qM];intro g7 cap7 w7 ho7 hg7 hat7 hlt7;refine hK _ _ ?_;clear hK K;(try simp only[Act.put,sA0]);have HP7:=Lh (HPd.out.page hg7 ho7 (fun k hk=>by cases hk;exact hat7));have HL7:Hid (ABox w7 Lb 3 [.int .i64 (ln:Int)]):=Lh ((hg7.block _ HLd.out.lt (fun e=>(HPd.out.pg.at_ Lb e.symm).2.1 (by simp))).trans HLd.out);have HS7:Hid (ABox w7 Sb 3 [.int .i64 (sh:Int)]):=Lh ((hg7.block _ HSd.out.lt (fun e=>(HPd.out.pg.at_ Sb e.symm).2.1 (by simp))).trans HSd.out);clear ho7 hg7 hat7 hlt7 HPd HLd HSd hp3 HPR;refine QbJ (i:=12) (oi:=_) rfl (by kernel_rfl) (by rfl) (fun K hK=>?_);go_simp;refine hK _ _ ?_;clear hK K;(try go_frame);refine wpAny_done (by kernel_rfl) ?_ _;unfold Exit.then;go_upto_region 21 with(fail);refine Qay (fun w'=>w'.cell? ⟨Lb,0,none⟩=some (.int .i64 (ln:Int))∧w'.cell? ⟨Qb,0,none⟩=some (.slice Aq1 qu1.length cq1)∧w'.cell? ⟨Sb,0,none⟩=some (.int .i64 (sh:Int))) (fun i=>decide (i<7)) (by kernel_rfl) ?_;have hbz:Below w7.heap.size w7 w7.drew:=bR.drew;have HP8:=Lh (HP7.out.to hbz);have HL8:=Lh (HL7.out.to hbz);have HS8:=Lh (HS7.out.to hbz);clear hbz HP7 HL7 HS7;generalize w7.drew=W0 at*;have hS0:W0.cell? ⟨Lb,0,none⟩=some (.int .i64 (ln:Int))∧W0.cell? ⟨Qb,0,none⟩=some (.slice Aq1 qu1.length cq1)∧W0.cell? ⟨Sb,0,none⟩=some (.int .i64 (sh:Int)):=⟨HL8.out.cell 0 rfl,HP8.out.qb.cell 0 rfl,HS8.out.cell 0 rfl⟩
        have HNB:Hid (Lb≠w.heap.size∧Qb≠w.heap.size∧Sb≠w.heap.size):=Lh (by
         have h:=HP8.out.nd
         simp at h
         exact⟨fun e=>h.1.2.1 e.symm,fun e=>h.1.1 e.symm,fun e=>h.1.2.2.1 e.symm⟩)
        have HSQ:Hid (∀u,(W0.setCell ⟨w.heap.size,0,none⟩ u).cell? ⟨Lb,0,none⟩=some (.int .i64 (ln:Int))∧(W0.setCell ⟨w.heap.size,0,none⟩ u).cell? ⟨Qb,0,none⟩=some (.slice Aq1 qu1.length cq1)∧(W0.setCell ⟨w.heap.size,0,none⟩ u).cell? ⟨Sb,0,none⟩=some (.int .i64 (sh:Int))):=Lh (fun u=>
         ⟨(HL8.out.other HNB.out.1 0 u).cell 0 rfl,(HP8.out.qb.other HNB.out.2.1 0 u).cell 0 rfl,(HS8.out.other HNB.out.2.2 0 u).cell 0 rfl⟩)
        have HPS:=Lh (pages_step h4 HF.out.1 HNE1.out HDN.out)
        have HLEN:Hid (vlen u9=pgs.length∧pgs.length+1≤N):=Lh ⟨HU9.out,by
         have h1:=congrArg List.length HT.out
         rw[HPS.out.2,HNE.out,qA,qC] at h1
         omega⟩
        have HT2:Hid ((pgs++[(⟨0,0,0,0,bd.take ln,qu1.take sh⟩:PageP)])++setPages notes hn (f-1) (bd.drop ln) (qu1.drop sh)=setPages notes hn (Qag body notes) body []):=Lh (by
         rw[←HT.out,HPS.out.2,List.append_assoc];rfl)
        have HS2:Hid (Qbe (bd.drop ln)∧Qbe (qu1.drop sh)∧Refs (bd.drop ln) notes):=Lh ⟨fun x hx=>HS.out.1 x (List.mem_of_mem_drop hx),fun x hx=>HQS.out x (List.mem_of_mem_drop hx),fun x hx=>HS.out.2.2 x (List.mem_of_mem_drop hx)⟩;have HF2:Hid (Qag (bd.drop ln) notes+(qu1.drop sh).length≤f-1∧f-1≤1048576):=Lh ⟨HPS.out.1,by have:=HF.out.2;omega⟩;refine tE 1 ⟨some 90,Op.load 3 (.tmp 11),3,_,_,_⟩ ?_ rfl ?zq10 (hS0) ?zq11;(case zq10=>intro wS hSw;(have hq:=hSw.1);clear hSw;go_simp;(try with_reducible rfl));(all_goals try go_frame);refine tE 3 ⟨some 92,Op.load 42 (.tmp 10),42,_,_,_⟩ ?_ rfl ?zq12 (hS0) ?zq13;(case zq12=>intro wS hSw;(have hq:=hSw.2.1);clear hSw;go_simp;(try with_reducible rfl));(all_goals try go_frame);refine tE 4 ⟨some 93,Op.load 3 (.tmp 12),3,_,_,_⟩ ?_ rfl ?zq14 (hS0) ?zq15;(case zq14=>intro wS hSw;(have hq:=hSw.2.2);clear hSw;go_simp;(try with_reducible rfl));(all_goals try go_frame);refine tE 5 ⟨some 94,Op.slice 42 (.tmp 92) (some (.tmp 93)) none none,42,_,_,_⟩ ?_ rfl ?zq16 (hS0) ?zq17;(case zq16=>intro _ s;clear s;go_simp;(try with_reducible rfl));(all_goals try go_frame);refine tD 0 ⟨some 89,Op.load 42 (.tmp 3),42,_,_,_⟩ rfl fun K hK=>?_
        have hq0:=HP8.out.bb.cell 0 rfl;go_simp;refine hK _ _ (fun _=>?_) ?_
        ·exact hS0
        clear hK K;(try go_frame);refine tE 2 ⟨some 91,Op.slice 42 (.tmp 89) (some (.tmp 90)) none none,42,_,_,_⟩ ?_ rfl ?zq18 (hS0) ?zq19;(case zq18=>intro _ s;clear s;go_simp;(try with_reducible rfl));(all_goals try go_frame);refine tD 6 ⟨none,Op.store 42 (.tmp 3) (.tmp 91),0,_,_,_⟩ rfl fun K hK=>?_
        have hq6:=HP8.out.bb.cell 0 rfl;have hf6:=HP8.out.bb.fz 0;go_simp;clear hq6 hf6;refine hK _ _ (fun _=>?_) ?_
        ·exact(HSQ.out _)
        clear hK K;(try simp only[Act.put]);refine tD 7 ⟨none,Op.store 42 (.tmp 10) (.tmp 94),0,_,_,_⟩ rfl fun K hK=>?_
        have hq7:=(HP8.out.qb.other HNB.out.2.1 0 (.slice (if c'=ln then A' else Option.map (fun x=>x.add (ln*4)) A') (bd.length-ln) (c'-ln))).cell 0 rfl;have hf7:=(HP8.out.qb.other HNB.out.2.1 0 (.slice (if c'=ln then A' else Option.map (fun x=>x.add (ln*4)) A') (bd.length-ln) (c'-ln))).fz 0;go_simp;clear hq7 hf7;refine hK _ _ (fun h=>absurd h (by decide)) ?_;clear hK K;(try simp only[Act.put]);refine Qam (by kernel_rfl) ?_ _;unfold Exit.inBlock
        have HP9:Hid (∃ob9,PO w ((W0.setCell ⟨w.heap.size,0,none⟩ (.slice (if c'=ln then A' else Option.map (fun x=>x.add (ln*4)) A') (bd.length-ln) (c'-ln))).setCell ⟨Qb,0,none⟩ (.slice (if cq1=sh then Aq1 else Option.map (fun x=>x.add (sh*4)) Aq1) (qu1.length-sh) (cq1-sh))) w.heap.size (w.heap.size+1) Qb [] (if c'=ln then A' else Option.map (fun x=>x.add (ln*4)) A') (c'-ln) (bd.drop ln) hn ob9 (.slice (if cq1=sh then Aq1 else Option.map (fun x=>x.add (sh*4)) Aq1) (qu1.length-sh) (cq1-sh)) (qu1.drop sh) (.slice (some ⟨g7,0,none⟩) (pgs.length+1) cap7) (pgs++[(⟨0,0,0,0,bd.take ln,qu1.take sh⟩:PageP)])):=Lh (by
         obtain⟨ob9,ho9,hq9⟩:=HP8.out.q.cut (k:=sh) (by rw[qM];exact hshq)
         rw[←List.map_drop] at hq9
         exact⟨ob9,(HP8.out.cut (HP8.out.bs.drop ln hlnb) (by rw[List.length_drop]) hq9 ho9).less⟩)
        clear HP8 HL8 HS8 hS0 HNB HSQ;go_wp2_with fail;go_roundw;case rel=>
         obtain⟨ob9,hp9⟩:=HP9.out;exact⟨_,_,_,ob9,_,_,_,f-1,Lh hp9,HF2,HT2,HS2⟩
        case measure=>
         have h:=HLEN.out;rw[h.1];show N-(pgs.length+1)<N-pgs.length;omega
       ·obtain⟨wo,rfl⟩:∃wo:World,wo=wr:=⟨_,rfl⟩;obtain⟨hlt,hfit⟩:=fits_get HFB.out;have HFIT:=Lh hfit;obtain⟨b,o,Ag,cg,An,cn,hA,hbo,hbl,-,-,-,e3,-,hnS⟩:=Qcr HP.out.bs hlt;subst hA;have HNS:=Lh hnS;have HRX:=Lh (HS.out.2.2 bd[ln] (List.getElem_mem hlt));have hlc:bd.length≤c':=HP.out.bs.1;have hlI:(ln:Int)<(bd.length:Int):=(by omega);have hl0:(0:Int)≤(ln:Int):=(by omega);have HGO:Hid (fillP notes hn (bd.drop ln) ln sh qu1=fillP notes hn (bd.drop (ln+1)) (ln+1) (Qbs hn ln sh (qu1++Qaa notes bd[ln]).length) (qu1++Qaa notes bd[ln])):=Lh (fillP_go hlt hfit);have HTA:Hid ((bd.take (ln+1)).flatMap (Qaa notes)=(bd.take ln).flatMap (Qaa notes)++Qaa notes bd[ln]):=Lh (take_all hlt);have HB1:Hid (Below w.heap.size w wo):=Lh HP.out.bl;have HMO:Hid ((intOf ((wo.cell? ⟨Lb,0,none⟩).getD undef)).toNat=ln):=Lh (by rw[HL.out.cell 0 rfl];simp[intOf])
        have HLX:Hid ((Qaa notes bd[ln]).length≤1048576):=Lh (by
         have h1:=Qa5 notes bd bd.length nL
         have h2:=HF.out
         have h3:(Qaa notes bd[ln]).length≤((bd.take bd.length).flatMap (Qaa notes)).length:=by
          rw[List.take_length]
          exact(List.sublist_flatten_of_mem (List.mem_map.2 ⟨bd[ln],List.getElem_mem hlt,rfl⟩)).length_le
         omega)
        obtain⟨x,hx⟩:∃x,bd[ln]=x:=⟨_,rfl⟩;have HXM:Hid (bd[ln]? =some x):=Lh (by rw[qG hlt,hx]);rw[hx] at HFIT HNS HRX HGO HTA HLX e3;clear hfit hnS hx;go_upto_region 11 with(first|(go_at_call 68;refine HFC.out.mono ?_;rintro e w4 ⟨rfl,hb4⟩)|fail);have HP4:=Lh (HP.out.to hb4);have HL4:=Lh (HL.out.to hb4);have HS4:=Lh (HSn.out.to hb4);have HR4:=Lh (HR.out.to hb4);have hq0:=HP4.out.bb.cell 0 rfl;have hq1:=HL4.out.cell 0 rfl;have hq2:w4.cell? ⟨b,o+ln*4+3,none⟩=some (.slice An x.notes.length cn):=(hb4.cell (p:=⟨b,_,none⟩) hbl).trans e3;have hnl9:x.notes.length≤9223372036854775807:=(by have:=HNS.out.1;have:=HNS.out.2.1;unfold maxLen at this;omega);clear hb4 e3 HP HL HSn HR HFC;go_wp2_with fail;clear hq0 hq1 hq2
        go_loopw [48] (fun v48 wr=>∃(j:Nat) (ob2:Option Nat) (qv:Value) (qu2:List LineP),v48=.int .i64 (j:Int)∧j≤x.notes.length∧Hid (PO w wr w.heap.size (w.heap.size+1) Qb [Lb,Sb,Rb] (some ⟨b,o,none⟩) c' bd hn ob2 qv qu2 u9 pgs)∧Hid (ABox wr Lb 3 [.int .i64 (ln:Int)])∧Hid (ABox wr Sb 3 [.int .i64 (sh:Int)])∧ Hid (ABox wr Rb 122 [Qc3 (w.heap.size+1) Lb Sb])∧Hid (qu2=qu1++Qbj notes x j)) (fun v48 _=>x.notes.length-(intOf v48).toNat)
        (case atStart=>exact⟨0,ob1,_,qu1,rfl,Nat.zero_le _,HP4,HL4,HS4,HR4,Lh (by simp[Qbj])⟩);case round=>
         clear HP4 HL4 HS4 HR4;obtain⟨j,ob2,qv2,qu2,rfl,hj,HP,HL,HSn,HR,HQ2⟩:=hrel;obtain⟨Aq2,cq2,hqv,-,-⟩:=HP.out.q.len;rw[qM] at hqv;subst hqv;by_cases hjl:j<x.notes.length
         ·have hjI:(j:Int)<(x.notes.length:Int):=by omega
          have hj0:(0:Int)≤(j:Int):=(by omega);have HNSr:Hid (Sl wr (fun b=>b<w.heap.size) An cn x.notes):=Lh (HNS.out.old (kept_two HB1.out HP.out.bl) HP.out.bl.size);obtain⟨b1,o1,hA1,-,-,hok,ce⟩:=QbK HNSr.out hjl;obtain⟨hr0,hr1⟩:=HRX.out _ (List.getElem_mem hjl);obtain⟨k,hk⟩:∃k:Nat,x.notes[j]=(k:Int):=⟨x.notes[j].toNat,by omega⟩;have HST:Hid (Qbj notes x (j+1)=Qbj notes x j++notes[x.notes[j].toNat]'(by omega)):=Lh (noteTo_step hjl (by omega));have hkn:k<notes.length:=(by omega);have hkI:(k:Int)<(notes.length:Int):=(by omega);have hk0:(0:Int)≤(k:Int):=(by omega);have HBr:Hid (Sl wr (fun b=>b<w.heap.size) B d notes):=Lh (HBn.out.keep (Kept.below HP.out.bl (fun i hi=>hi)) HP.out.bl.size);obtain⟨bn,on,Ap,cp,hB,hbn,hbnl,cn1,hyS⟩:=Qbw HBr.out hkn;have hln2:notes.length≤d:=HBr.out.1;have HYS:=Lh hyS;have e1:x.notes[j].toNat=k:=(by omega);simp only[e1] at HST;rw[hk] at ce;have HYL:Hid (∀z,z∈notes[k]→True):=Lh (fun _ _=>trivial)
          have HNL2:Hid (qu1.length+(Qbj notes x (j+1)).length≤1048576+1048576):=Lh (by
           have h1:=noteTo_le notes x (j+1)
           have h2:=HQN.out
           have h3:=HLX.out
           omega)
          obtain⟨y,hy⟩:∃y,notes[k]=y:=⟨_,rfl⟩;rw[hy] at HST HYS cn1;clear HYL hy e1 hk hok hr0 hr1 hyS;subst hA1;subst hB;have hqb:=HP.out.qb.cell 0 rfl;have hcn9:x.notes.length≤cn:=HNSr.out.1;go_upto_region 14 with(fail);refine Qay (fun w'=>w'.cell? ⟨Qb,0,none⟩=some (.slice Aq2 qu2.length cq2)∧w'.cell? ⟨bn,on+k,none⟩=some (.slice Ap y.length cp)) (fun i=>decide (i<5)) (by kernel_rfl) ?_;have hbz:Below wr.heap.size wr wr.drew:=bR.drew;have hS0:wr.drew.cell? ⟨Qb,0,none⟩=some (.slice Aq2 qu2.length cq2)∧wr.drew.cell? ⟨bn,on+k,none⟩=some (.slice Ap y.length cp):=⟨hqb,cn1⟩;have HPz:=Lh (HP.out.to hbz);have HLz:=Lh (HL.out.to hbz);have HSz:=Lh (HSn.out.to hbz);have HRz:=Lh (HR.out.to hbz);have HYz:Hid (Sl wr.drew (fun b=>b<w.heap.size) Ap cp y):=Lh (HYS.out.keep (Kept.all hbz) hbz.size);clear hbz HP HL HSn HR HYS ce cn1 hqb HNSr HBr;generalize wr.drew=W0 at*
          have HNL3:Hid (qu2.length+y.length≤1048576+1048576):=Lh (by
           have h1:=HNL2.out
           rw[HST.out,qA] at h1
           rw[HQ2.out,qA]
           omega)
          refine tE 0 ⟨some 52,Op.load 42 (.tmp 10),42,_,_,_⟩ ?_ rfl ?zq20 (hS0) ?zq21;(case zq20=>intro wS hSw;(have hq:=hSw.1);clear hSw;go_simp;(try with_reducible rfl));(all_goals try go_frame);refine tE 1 ⟨some 53,Op.move (.tmp 1),99,_,_,_⟩ ?_ rfl ?zq22 (hS0) ?zq23;(case zq22=>intro _ s;clear s;go_simp;(try with_reducible rfl));(all_goals try go_frame);refine tE 2 ⟨some 54,Op.move (.tmp 16),3,_,_,_⟩ ?_ rfl ?zq24 (hS0) ?zq25;(case zq24=>intro _ s;clear s;go_simp;(try with_reducible rfl));(all_goals try go_frame);refine tE 3 ⟨some 55,Op.indexAddr 99 (.tmp 53) (.tmp 54),0,_,_,_⟩ ?_ rfl ?zq26 (hS0) ?zq27;(case zq26=>intro _ s;clear s;go_simp;(try with_reducible rfl));(all_goals try go_frame);refine tE 4 ⟨some 56,Op.load 42 (.tmp 55),42,_,_,_⟩ ?_ rfl ?zq28 (hS0) ?zq29;(case zq28=>intro wS hSw;(have hq:=hSw.2);clear hSw;go_simp;(try with_reducible rfl));(all_goals try go_frame);refine tD 5 ⟨some 57,Op.call {callee:=Callee.builtin Builtin.append,args:=#[Operand.tmp 52,Operand.tmp 56],argTypes:=#[42,42]},42,_,_,_⟩ rfl fun K hK=>?_
          refine wp_que (α:=OldL w.heap.size) (.tmp 52) (.tmp 56) 42 rfl w.heap.size 49 (.agg #[.int .i64 0,.int .i64 0,.slice none 0 0,.slice none 0 0]) 64 Tryd.underlying42 Qcn rfl (show 0<4 by decide) ob2 _ (qu2.map Av.mk) rfl HPz.out.q Ap cp y.length (y.map Av.mk) rfl (by rw[qM]) (fun b=>b<w.heap.size) (HYz.out.av (fun i h _=>h)) (fun i hi _ e=>by have:=(HPz.out.q.lt i e.symm).1;omega) (fun i hi=>Nat.lt_of_lt_of_le hi HPz.out.bl.size) (by rw[qM];have:=HNL3.out;omega) (by rw[qM];have:=HNL3.out;omega) HPz.out.bl.size ?_;intro v5 w5 ob5 hq5 hg5 hob5;rw[←List.map_append] at hq5;obtain⟨A5,c5,rfl,-,-⟩:=hq5.len;rw[qM] at hq5 ⊢;have HQ5:=Lh hq5;have HG5:=Lh hg5;have HO5:=Lh hob5;clear hq5 hg5 hob5;refine hK _ _ (fun h=>absurd h (by decide)) ?_;clear hK K;(try go_frame);refine tD 6 ⟨none,Op.store 42 (.tmp 10) (.tmp 57),0,_,_,_⟩ rfl fun K hK=>?_
          have hqb5:ABox w5 Qb 42 [.slice Aq2 qu2.length cq2]:=(HG5.out.block Qb (HPz.out.ge Qb (by simp)).2.1 (HPz.out.ge Qb (by simp)).2.2).trans HPz.out.qb;have hc6:=hqb5.cell 0 rfl;have hf6:=hqb5.fz 0;go_simp;clear hc6 hf6 hqb5;refine hK _ _ (fun h=>absurd h (by decide)) ?_;clear hK K;(try simp only[Act.put]);refine Qam (by kernel_rfl) ?_ _;have HP5:=Lh (HPz.out.que HG5.out HQ5.out HO5.out)
          have hbx:∀{z t cs},z∈[Lb,Sb,Rb]→ABox W0 z t cs→ABox (w5.setCell ⟨Qb,0,none⟩ (.slice A5 (qu2++y).length c5)) z t cs:=fun {z t cs} hz hb=>by
           have hz2:z∈w.heap.size::(w.heap.size+1)::Qb::[Lb,Sb,Rb]:=(by simp only[List.mem_cons] at hz ⊢;rcases hz with h|h|h|h<;>simp_all);have hne:z≠Qb:=by
            have h:=HPz.out.nd;simp only[List.nodup_cons,List.mem_cons,not_or] at h;simp only[List.mem_cons,List.not_mem_nil,or_false] at hz;rcases hz with rfl|rfl|rfl
            ·exact fun e=>h.2.2.1.1 e.symm
            ·exact fun e=>h.2.2.1.2.1 e.symm
            ·exact fun e=>h.2.2.1.2.2.1 e.symm
           exact(show ABox w5 z t cs from(HG5.out.block z (HPz.out.ge z hz2).2.1 (HPz.out.ge z hz2).2.2).trans hb).other hne 0 _
          have HL5:=Lh (hbx (by simp) HLz.out);have HS5:=Lh (hbx (by simp) HSz.out);have HR5:=Lh (hbx (by simp) HRz.out);clear hbx HPz HLz HSz HRz HQ5 HG5 HO5 HYz hS0;simp only[qA] at HP5 HL5 HS5 HR5;unfold Exit.then;go_wp2_with fail;go_roundw;(case rel=>exact⟨j+1,ob5,_,qu2++y,by go_num,by omega,HP5,HL5,HS5,HR5,Lh (by rw[HQ2.out,HST.out,List.append_assoc])⟩);case measure=>(first|(simp[intOf];done)|(simp[intOf];omega))
         ·have hjI:¬(j:Int)<(x.notes.length:Int):=by omega
          have HQA:Hid (qu2=qu1++Qaa notes x):=Lh (by rw[HQ2.out,show j=x.notes.length by omega,noteTo_all])
          have HLE:Hid (qu2.length≤1048576+1048576):=Lh (by
           rw[HQA.out,qA]
           have h2:=HQN.out
           have h3:=HLX.out
           omega)
          have hc1:=HL.out.cell 0 rfl;have hf1:=HL.out.fz 0;have hlnI:(ln:Int)≤1048576:=(by have:=HBN.out;omega);have hln0:(0:Int)≤(ln:Int):=(by omega);have hw0:IntKind.i64.wrap ((ln:Int)+1)=(ln:Int)+1:=(by rw[IntWalk.i64_in _ (by omega)]);go_upto_region 17 with(fail);have HP6:=Lh (HP.out.set (x:=Lb) (by simp) (.int .i64 ((ln:Int)+1)));have HL6:Hid (ABox (wr.setCell ⟨Lb,0,none⟩ (.int .i64 ((ln:Int)+1))) Lb 3 [.int .i64 ((ln+1:Nat):Int)]):=Lh (by simpa using HL.out.set 0 (.int .i64 ((ln:Int)+1)))
          have HNB:Hid (Sb≠Lb∧Rb≠Lb∧Rb≠Sb):=Lh (by
           have h:=HP.out.nd
           simp at h
           exact⟨fun e=>h.2.2.2.1.1 e.symm,fun e=>h.2.2.2.1.2 e.symm,fun e=>h.2.2.2.2 e.symm⟩)
          have HS6:=Lh (HSn.out.other HNB.out.1 0 (.int .i64 ((ln:Int)+1)));have HR6:=Lh (HR.out.other HNB.out.2.1 0 (.int .i64 ((ln:Int)+1)));clear hc1 hf1 hw0 HP HL HSn HR;generalize wr.setCell ⟨Lb,0,none⟩ (.int .i64 ((ln:Int)+1))=w6 at*;have hq1:=HP6.out.qb.cell 0 rfl;have hq2:=HS6.out.cell 0 rfl;have hshI:(sh:Int)≤1048576:=(by have:=HQN.out;have:=HI.out.2.1;omega);have hqI:(qu2.length:Int)≤2097152:=(by have:=HLE.out;omega);have HTK:Hid (qu2=qu++(bd.take (ln+1)).flatMap (Qaa notes)):=Lh (by rw[HTA.out,HQA.out,HI.out.2.2.1,List.append_assoc]);have HFL:Hid (fillP notes hn (bd.drop (ln+1)) (ln+1) (Qbs hn ln sh qu2.length) qu2=fillP notes hn bd 0 (min qu.length (hn-1)) qu):=Lh (by rw[←HFI.out,HGO.out,←HQA.out]);have HSH:Hid (sh≤qu2.length):=Lh (by rw[HQA.out,qA];have:=HI.out.2.1;omega);by_cases hmo:sh<qu2.length
          ·have hmI:(0:Int)<(qu2.length:Int)-(sh:Int):=by omega
           go_upto_region 19 with(fail);obtain⟨r,hr⟩:∃r,Qce hn (ln+1) sh=r:=⟨_,rfl⟩;have HSTP:=Lh (shown_step HFIT.out HI.out.2.2.2 (q2:=qu2.length) (fun h=>by rw[HQA.out,qA];unfold Qaa;rw[h];rfl) hmo);obtain⟨ns,hns⟩:∃ns,Qbs hn ln sh qu2.length=ns:=⟨_,rfl⟩;rw[hr,hns] at HSTP;rw[hns] at HFL;have hrb: -4194304≤r∧r≤4194304:=(by rw[←hr];unfold Qce;omega);have hw1:IntKind.i64.wrap (r-1)=r-1:=(by rw[IntWalk.i64_in _ (by omega)]);have hw2:IntKind.i64.wrap (r-1+min (sh:Int) 1)=r-1+min (sh:Int) 1:=(by rw[IntWalk.i64_in _ (by omega)]);have hnsb:ns≤qu2.length:=(by rw[←hns];exact(Qdd HSH.out).2);have hw3:IntKind.i64.wrap ((sh:Int)+min ((qu2.length:Int)-(sh:Int)) (r-1+min (sh:Int) 1))=(ns:Int):=by
            have h:=HSTP.out.2.1;rw[show((min sh 1:Nat):Int)=min (sh:Int) 1 by omega] at h;rw[h,IntWalk.i64_in _ (by omega)]
           have HNB2:Hid (ns≤qu2.length∧1≤ns):=Lh ⟨hnsb,HSTP.out.2.2⟩
           have HRM:Hid (∀W,Below w6.heap.size w6 W→Calls Tryd.prog 67 #[.pointer (some ⟨w.heap.size+1,0,none⟩),.pointer (some ⟨Lb,0,none⟩),.pointer (some ⟨Sb,0,none⟩)] W fun e w'=>e=.returned (.int .i64 r)∧W=w'):=Lh (fun W hW=>by
            rw[←hr]
            exact room_any (w.heap.size+1) Lb Sb hn (ln+1) sh W (by omega) (by omega) (by omega) ((HP6.out.hb.to hW).cell 0 rfl) ((HL6.out.to hW).cell 0 rfl) ((HS6.out.to hW).cell 0 rfl))
           clear hr hns hnsb HSTP hrb;refine Qaq [3] (fun i=>if i=3 then SP.val (.int .i64 r) else SP.any) 10 (by kernel_rfl) (by kernel_rfl) ?_;intro T _ g hg hgm;have q3:∀d,(g d).cell? ⟨Sb,0,none⟩=some (.int .i64 (sh:Int)):=fun d=>(HS6.out.to (hg d)).cell 0 rfl
           have q4:∀d,(g d).cell? ⟨Rb,0,none⟩=some (Qc3 (w.heap.size+1) Lb Sb):=fun d=>(HR6.out.to (hg d)).cell 0 rfl
           have HG5:=Lh hgm;unfold Qc3 at q4;(repeat(refine QaB (by rfl) fun Kq hq=>?_;go_big_quiet_step (fail);refine wpQuiet_nil (hq _ ?_);clear hq Kq));refine Qa7 (by rfl) (by rfl) (fun d hG K Q hK=>?_) (fun v3 d hG hp Kr hr=>?_)
           ·go_simp;go_at_call 67;refine(HRM.out _ (hg d)).mono ?_;rintro e W1 ⟨rfl,rfl⟩;go_simp;exact hK _ _ bR (rfl)
           obtain rfl:v3=.int .i64 r:=hp;(try clear hp);clear hG;go_frame;refine hr _ ?_;clear hr Kr;(repeat(refine QaB (by rfl) fun Kq hq=>?_;go_big_quiet_step (fail);refine wpQuiet_nil (hq _ ?_);clear hq Kq));refine QcQ 1 (by rfl) (by rfl) (fun d hG=>?_);have HPd:=Lh (HP6.out.to (hg d));have HLd:=Lh (HL6.out.to (hg d));have HSd:=Lh (HS6.out.to (hg d));have HRd:=Lh (HR6.out.to (hg d));clear q3 q4 hG hg hgm HG5 HP6 HL6 HS6 HR6 HRM hq1 hq2;generalize g d=wx at*;clear g;have hc3:=HSd.out.cell 0 rfl;have hf3:=HSd.out.fz 0;refine QbJ (i:=10) (oi:=_) rfl (by kernel_rfl) (by rfl) (fun K hK=>?_);go_simp;refine hK _ _ ?_;clear hK K;(try go_frame);refine wpAny_done (by kernel_rfl) ?_ _;have HP8:=Lh (HPd.out.set (x:=Sb) (by simp) (.int .i64 (ns:Int)));have HL8:=Lh (HLd.out.other (Ne.symm HNB.out.1) 0 (.int .i64 (ns:Int)));have HS8:Hid (ABox (wx.setCell ⟨Sb,0,none⟩ (.int .i64 (ns:Int))) Sb 3 [.int .i64 (ns:Int)]):=Lh (by simpa using HSd.out.set 0 (.int .i64 (ns:Int)));have HR8:=Lh (HRd.out.other HNB.out.2.2 0 (.int .i64 (ns:Int)));clear hc3 hf3 HPd HLd HSd HRd;generalize wx.setCell ⟨Sb,0,none⟩ (.int .i64 (ns:Int))=w8 at*;have HL9:Hid ((intOf ((w8.cell? ⟨Lb,0,none⟩).getD undef)).toNat=ln+1):=Lh (by rw[HL8.out.cell 0 rfl];show((ln+1:Nat):Int).toNat=ln+1;omega);unfold Exit.inBlock;go_wp2_with fail;go_roundw;(case rel=>exact⟨ln+1,ns,ob2,_,qu2,HP8,HL8,HS8,HR8,HFL,Lh ⟨by omega,HNB2.out.1,HTK.out,fun h=>by have:=HNB2.out.2;omega⟩⟩);case measure=>rw[HL9.out,HMO.out];omega
          ·have hmI:¬(0:Int)<(qu2.length:Int)-(sh:Int):=by omega
           have HNS2:Hid (Qbs hn ln sh qu2.length=sh):=Lh (by unfold Qbs;rw[if_neg hmo]);have HL9:Hid ((intOf ((w6.cell? ⟨Lb,0,none⟩).getD undef)).toNat=ln+1):=Lh (by rw[HL6.out.cell 0 rfl];show((ln+1:Nat):Int).toNat=ln+1;omega);rw[HNS2.out] at HFL;go_wp2_with fail;go_roundw;(case rel=>exact⟨ln+1,sh,ob2,_,qu2,HP6,HL6,HS6,HR6,HFL,Lh ⟨by omega,HSH.out,HTK.out,fun h=>by omega⟩⟩);case measure=>rw[HL9.out,HMO.out];omega
 ·obtain⟨e0,he0⟩:∃e0,QaQ body notes h=e0:=⟨_,rfl⟩;rw[he0] at hE;have HE0:=Lh he0;have hne:(e0 != 0)=true:=(by simpa using hE);simp only[he0] at HC ⊢;have HE:=Lh hE;clear hE he0;go_enter Tryd.func51,Tryd.ntmps51;go_wp2_with (first|(go_at_call 66;refine(HC.out _ HB0.out).mono ?_;rintro e w2 ⟨rfl,hb2⟩)|fail);go_ret2;exact⟨_,rfl,fun h=>absurd h HE.out,fun _=>rfl,HB0.out.trans (hb2.mono HB0.out.size)⟩
theorem Qds {α:Type}(l:List α)(i j:Nat):(Qdm l i j).length≤l.length:=by
 unfold Qdm;rw[List.length_drop,qK];omega
theorem gapsP_le (ws:List Int)(m:Int)(last:Bool):(Qdl ws m last).length≤ws.length:=by
 unfold Qdl;split
 ·simp
 ·split
  ·rw[List.length_replicate];omega
  ·rw[qM,List.length_range];omega
theorem notesP_le (l:List Word):(Qaw l).length≤l.length:=by
 unfold Qaw;rw[qM];exact List.length_filter_le _ _
theorem QbG {N:Nat}(ws:List Word)(wd:List Int)(m first:Int)(h1:ws.length≤N)(h2:wd.length≤N):∀(es:List Nat) (i:Nat),∀x∈Qai ws wd m first i es,x.gaps.length≤N∧x.notes.length≤N
 |[],_,x,hx=>absurd hx (by simp[Qai])
 |e::es,i,x,hx=>by
  rw[Qai] at hx;rcases List.mem_cons.1 hx with rfl|hx
  ·exact⟨Nat.le_trans (gapsP_le _ _ _) (Nat.le_trans (Qds _ _ _) h2),Nat.le_trans (notesP_le _) (Nat.le_trans (Qds _ _ _) h1)⟩
  ·exact QbG ws wd m first h1 h2 es e x hx
theorem setP_small {p:List Word}(first m:Int)(h:p.length≤500):Qbe (setP p first m):=by
 intro x hx;have:=QbG (N:=500) p (Qab p) m first h (by unfold Qab;rw[qM];exact h) _ _ x hx
 omega
theorem QbH (m:Int):∀(l:List (List Word)) (first:Int),(∀p∈l,p.length≤500)→∀n∈Qaj m first l,Qbe n
 |[],_,_,n,hn=>absurd hn (by simp[Qaj])
 |p::l,first,h,n,hn=>by
  rw[Qaj] at hn;rcases List.mem_cons.1 hn with rfl|hn
  ·exact setP_small first m (h p (by simp))
  ·exact QbH m l _ (fun q hq=>h q (by simp[hq])) n hn
theorem FineT.small {a b:List (List Word)}(h:FineT a b)(m:Int):Qbe (QaA a m)∧∀n∈Qah a b m,Qbe n:=
 ⟨fun x hx=>by
  unfold QaA at hx
  obtain⟨l,hl,hx⟩:=List.mem_flatten.1 hx
  exact QbH m a 0 (fun p hp=>(h.p p (by simp[hp])).2) l hl x hx,fun n hn=>QbH m b _ (fun p hp=>(h.p p (by simp[hp])).2) n hn⟩
theorem Qb6 {a b:List (List Word)}(h:FineT a b){m:Int}(h1:500≤m)(h2:m≤2000):(QaA a m).length+(Qah a b m).flatten.length≤100000:=by
 have e1:=Qa8 m a 0 (fun p hp=>h.reg h1 h2 (by simp[hp]));have e2:=Qa8 m b (tot a:Nat) (fun p hp=>h.reg h1 h2 (by simp[hp]));have e3:=h.tot;rw[Qbt] at e3;unfold QaA Qah;omega
theorem QdB {a b:List (List Word)}{m:Int}(h:Qa3 a b m=0):FineT a b∧500≤m∧m≤2000:=by
 unfold Qa3 at h;split at h
 ·rename_i hc;exact absurd h hc
 ·rename_i hc;split at h
  ·rename_i hm;exact⟨chk_zero (Decidable.not_not.1 hc),hm⟩
  ·exact absurd h (by decide)
set_option maxRecDepth 100000 in
theorem ptext_any (A B:Option Addr)(c d:Nat)(a b:List (List Word))(m h:Int)(w:World)(hT:Laid w)(ha:Sl w (fun b=>b<w.heap.size) A c a)(hb:Sl w (fun b=>b<w.heap.size) B d b)(hI:I64 h)(hla:a.length≤1048576)(hlb:b.length≤1048576):
 Calls Tryd.prog 39 #[.agg #[.slice A a.length c,.slice B b.length d],.int .i64 m,.int .i64 h] w fun e w'=>∃v,e=.returned (.tuple #[v,.int .i64 (textE a b m h)])∧ (textE a b m h=0→Own w' w.heap.size 47 v ((Qar a b m h.toNat).map (Bd.mk:PageP→Bd PageP w.heap.size)))∧(textE a b m h≠0→v=.slice none 0 0)∧Below w.heap.size w w':=by
 have hba:Below w.heap.size w (w.alloc (.cells #[.slice A a.length c,.slice B b.length d] 38)):=bR.alloc nL _;have HL:=Lh (lines_any A B c d a b m (w.alloc (.cells #[.slice A a.length c,.slice B b.length d] 38)) (hT.to hba) (ha.to hba) (hb.to hba) hla hlb);have HBA:=Lh hba;have c0:(w.alloc (.cells #[.slice A a.length c,.slice B b.length d] 38)).cell? ⟨w.heap.size,0,none⟩=some (.slice A a.length c):=cell_of_row _ _ 0 _ _ _ (heap_alloc_new w _);have c1:(w.alloc (.cells #[.slice A a.length c,.slice B b.length d] 38)).cell? ⟨w.heap.size,1,none⟩=some (.slice B b.length d):=cell_of_row _ _ 1 _ _ _ (heap_alloc_new w _);obtain⟨q,hq⟩:∃q,Qa3 a b m=q:=⟨_,rfl⟩;rw[hq] at HL;have HQ:=Lh hq;clear hT ha hb hba hq;by_cases hq0:q=0
 ·subst hq0;go_enter Tryd.func39,Tryd.ntmps39;go_wp2_with (first|(go_at_call 50;refine HL.out.mono ?_;rintro e w2 ⟨v,u,rfl,h1,-,hb2⟩;have h1:=h1 trivial)|fail);obtain⟨A1,c1,rfl,hs1⟩:=Qco h1.1 nL;obtain⟨A2,c2,rfl,hs2⟩:=Qco h1.2 nL;obtain⟨hfn,hm1,hm2⟩:=QdB HQ.out;have hlen:=Qb6 hfn hm1 hm2;have hsm:=hfn.small m;have hnl:(Qah a b m).length≤1048576:=(by unfold Qah;rw[QaG];exact hlb);have HB2:=Lh (HBA.out.trans (hb2.mono HBA.out.size));have HSB:Hid (w.heap.size≤w2.heap.size):=Lh HB2.out.size;refine(pset_any A1 A2 c1 c2 (QaA a m) (Qah a b m) h w2 (hs1.mono fun i h _=>h.1) (hs2.mono fun i h _=>h.1) hI hnl (by omega) hsm.1 hsm.2).mono ?_;rintro e w3 ⟨v,rfl,h2,h3,hb3⟩;have HE:Hid (textE a b m h=QaQ (QaA a m) (Qah a b m) h):=Lh (by unfold textE;rw[HQ.out,if_neg (by simp)]);have H2:=Lh h2;have H3:=Lh h3;have HB3:=Lh (HB2.out.trans (hb3.mono HB2.out.size));clear h1 hs1 hs2 hfn hm1 hm2 hlen hsm hnl h2 h3 hb3 hb2 HL;go_wp2_with fail;go_ret2;rw[HE.out];refine⟨_,rfl,fun h0=>?_,H3.out,HB3.out⟩;have h4:=(H2.out h0).re HSB.out;refine h4.conv _ (by rw[qM,qM];rfl) rfl (fun i h1 h2 es he=>?_);rw[List.getElem_map] at he ⊢;exact Rep.mono (α:=PageP) he (fun b hb _=>⟨hb.1,Nat.le_trans HSB.out hb.2⟩)
 ·have hqb:(q != 0)=true:=by simpa using hq0
  have HQ0:=Lh hq0;clear hq0;go_enter Tryd.func39,Tryd.ntmps39;go_wp2_with (first|(go_at_call 50;refine HL.out.mono ?_;rintro e w2 ⟨v,u,rfl,-,h1,hb2⟩;have HB2:=Lh (HBA.out.trans (hb2.mono HBA.out.size));clear h1 hb2)|fail);go_ret2;have HE:textE a b m h=q:=(by unfold textE;rw[HQ.out,if_pos HQ0.out]);exact⟨_,by rw[HE];rfl,fun h0=>absurd (HE▸h0) HQ0.out,fun _=>rfl,HB2.out⟩
def QcE (m h:Int)(a b:List (List Word)):Int:=if textE a b m h≠0 then textE a b m h else if tot (a++b)=0 then 1 else 0
theorem QbM {a b:List (List Word)}{m h:Int}(hE:textE a b m h=0):FineT a b∧(500≤m∧m≤2000)∧QaQ (QaA a m) (Qah a b m) h=0:=by
 unfold textE at hE;split at hE
 ·rename_i h1;exact absurd hE h1
 ·rename_i h1;have h2:=QdB (Decidable.not_not.1 h1);exact⟨h2.1,h2.2,hE⟩
def findP (l:List SectP)(e:Int):Int:=if l.findIdx (fun s=>decide (s.entry=e))<l.length then(l.findIdx (fun s=>decide (s.entry=e)):Int) else -1
theorem findP_hit {l:List SectP}{e:Int}{k:Nat}(hk:k<l.length)(h:l[k].entry=e)(hn:∀i (hi:i<k),(l[i]'(by omega)).entry≠e):findP l e=(k:Int):=by
 have:l.findIdx (fun s=>decide (s.entry=e))=k:=(List.findIdx_eq hk).2 ⟨by simp[h],fun i hi=>by simpa using hn i hi⟩;unfold findP;rw[this,if_pos hk]
theorem findP_cases (l:List SectP)(e:Int):findP l e= -1∨∃(k:Nat) (hk:k<l.length),findP l e=(k:Int)∧l[k].entry=e:=by
 unfold findP;by_cases h:l.findIdx (fun s=>decide (s.entry=e))<l.length
 ·rw[if_pos h];refine .inr ⟨_,h,rfl,?_⟩;have:=List.findIdx_getElem (w:=h);simpa using this
 ·rw[if_neg h];exact .inl rfl
theorem sect_at {w:World}{S:Nat→Prop}{A:Option Addr}{c:Nat}{l:List SectP}(h:Sl w S A c l){k:Nat}(hk:k<l.length):
 ∃b o Ag cg An cn,A=some ⟨b,o,none⟩∧S b∧b<w.heap.size∧w.cell? ⟨b,o+k*4,none⟩=some (.int .i64 l[k].entry)∧w.cell? ⟨b,o+k*4+1,none⟩=some (.bool l[k].frozen)∧ w.cell? ⟨b,o+k*4+2,none⟩=some (.slice Ag l[k].vers.length cg)∧w.cell? ⟨b,o+k*4+3,none⟩=some (.slice An l[k].texts.length cn)∧Sl w S Ag cg l[k].vers∧Sl w S An cn l[k].texts∧I64 l[k].entry:=by
 obtain⟨b,o,es,rfl,hb,hlt,⟨va,vb,rfl,hI,⟨Ag,cg,e1,hg,_⟩,⟨An,cn,e2,hn,_⟩⟩,hc⟩:=h.at_ hk;cases e1;cases e2;exact⟨b,o,Ag,cg,An,cn,rfl,hb,hlt,hc 0 _ rfl,hc 1 _ rfl,hc 2 _ rfl,hc 3 _ rfl,hg,hn,hI⟩
abbrev Up (B:Nat):Nat→Prop:=fun b=>B≤b
def QcG (l:List (List Word)):Prop:=l.length≤1048576∧∀p∈l,p.length≤1048576

structure SC where
 e:Int
 f:Bool
 v1:Value
 v2:Value
instance:Rep SC where
 size:=4
 R _ _ cs x:=cs=[.int .i64 x.e,.bool x.f,x.v1,x.v2]∧x.v1.oneCell'=true∧x.v2.oneCell'=true
 len:=by rintro w S cs s ⟨rfl,_⟩;rfl
 one:=by
  rintro w S cs s ⟨rfl,h1,h2⟩ u hu;simp at hu;rcases hu with rfl|rfl|rfl|rfl
  ·rfl
  ·rfl
  ·exact h1
  ·exact h2
 keep:=by rintro w w' S cs s h _;exact h
 mono:=by rintro w S S' cs s h _;exact h
structure CS (W:World)(g:Nat)(rows:List SC)(l:List SectP)(k:Nat):Prop where
 own:Own W g 34 (.slice (some ⟨g,0,none⟩) l.length l.length) rows
 len:rows.length=l.length
 f:∀i (h1:i<rows.length) (h2:i<l.length),rows[i].e=l[i].entry∧rows[i].f=l[i].frozen∧I64 l[i].entry∧(i<k→Rep.R W (fun b=>g<b) [rows[i].v1] l[i].vers∧Rep.R W (fun b=>g<b) [rows[i].v2] l[i].texts)∧ (k≤i→Rep.R W (fun b=>b<g) [rows[i].v1] l[i].vers∧Rep.R W (fun b=>b<g) [rows[i].v2] l[i].texts)
section
variable {W W':World} {g:Nat} {rows:List SC} {l:List SectP} {k:Nat}
end
theorem text_at {w:World}{S:Nat→Prop}{A:Option Addr}{c:Nat}{l:List TextP}(h:Sl w S A c l){k:Nat}(hk:k<l.length):
 ∃b o Aa ca Ab cb,A=some ⟨b,o,none⟩∧S b∧b<w.heap.size∧w.cell? ⟨b,o+k*2,none⟩=some (.slice Aa l[k].a.length ca)∧w.cell? ⟨b,o+k*2+1,none⟩=some (.slice Ab l[k].b.length cb)∧Sl w S Aa ca l[k].a∧Sl w S Ab cb l[k].b:=by
 obtain⟨b,o,es,rfl,hb,hlt,⟨va,vb,rfl,⟨Ag,cg,e1,hg,_⟩,⟨An,cn,e2,hn,_⟩⟩,hc⟩:=h.at_ hk;cases e1;cases e2;exact⟨b,o,Ag,cg,An,cn,rfl,hb,hlt,hc 0 _ rfl,hc 1 _ rfl,hg,hn⟩
def ShortX (s:SectP):Prop:=s.vers.length≤1048576∧s.texts.length≤1048576∧∀t∈s.texts,QcG t.a∧QcG t.b
def Qdx (l:List SectP):Prop:=l.length≤1048576∧∀s∈l,ShortX s
theorem sect_info:(Tryd.prog.info? 34).map (fun i=>(i.zero,i.size,i.bytes))=some (some (.agg #[.int .i64 0,.bool false,.slice none 0 0,.slice none 0 0]),4,64):=by kernel_rfl
theorem text_info:(Tryd.prog.info? 38).map (fun i=>(i.zero,i.size,i.bytes))=some (some (.agg #[.slice none 0 0,.slice none 0 0]),2,48):=by kernel_rfl
section
variable {P:Program} {ops:Array Oper} {Q:Exit→Act→World→Prop} {md:Region.Mode} {S:World→Prop} {hd:Nat→Bool}
end
abbrev Off (g:Nat)(v:Value):Nat→Prop:=fun b=>g<b∧some b≠v.ownBlock
structure CX (W:World)(g:Nat)(rows:List SC)(l:List SectP)(k:Nat):Prop where
 cs:CS W g rows l k
 vo:∀i (h1:i<rows.length) (h2:i<l.length),i<k→Own W (g+1) 3 rows[i].v1 l[i].vers∧∃A,rows[i].v2=.slice A l[i].texts.length l[i].texts.length
 ap:∀i (h1:i<rows.length) (_h2:i<l.length),i<k→∀j (h3:j<rows.length) (h4:j<l.length),j<k→(i≠j→Rep.R W (Off g rows[i].v1) [rows[j].v1] l[j].vers)∧Rep.R W (Off g rows[i].v1) [rows[j].v2] l[j].texts
section
variable {W W':World} {g:Nat} {rows:List SC} {l:List SectP} {k:Nat}
instance:Flat SC:=⟨fun h=>h⟩
end
end Go.Proofs.YtegaapiocihcpaaDoor
namespace Go.Proofs.YtegaapiocihcpaaDoor
open Go.RowKit
structure KS (S:Nat→Prop)(a b:World):Prop where
 os:b.os=a.os
 tape:b.tape=a.tape
 output:b.output=a.output
 size:a.heap.size≤b.heap.size
 block:∀i,S i→i<a.heap.size→b.heap[i]? =a.heap[i]?
section
variable {S T:Nat→Prop} {a b c:World}
theorem KS.refl (S:Nat→Prop)(a:World):KS S a a:=⟨rfl,rfl,rfl,Nat.le_refl _,fun _ _ _=>rfl⟩
theorem KS.trans (h:KS S a b)(k:KS S b c):KS S a c:=⟨k.os.trans h.os,k.tape.trans h.tape,k.output.trans h.output,Nat.le_trans h.size k.size,fun i hi hl=>(k.block i hi (Nat.lt_of_lt_of_le hl h.size)).trans (h.block i hi hl)⟩
theorem KS.mono (h:KS S a b)(hS:∀i,T i→i<a.heap.size→S i):KS T a b:=⟨h.os,h.tape,h.output,h.size,fun i hi hl=>h.block i (hS i hi hl) hl⟩
theorem KS.of_below (h:Below a.heap.size a b)(S:Nat→Prop):KS S a b:=⟨h.os,h.tape,h.output,h.size,fun i _ hl=>h.block i hl⟩
theorem KS.kept (h:KS S a b):Kept S a b:=fun i hi hl=>h.block i hi hl
theorem KS.putObj {W:World}{l:Nat}(o:Obj)(hS:¬S l):KS S W (W.putObj l o):=
 have g:=grownBy_putObj' W l o
 ⟨g.os,g.tape,g.output,g.size,fun i hi hl=>g.block i hl (fun e=>hS (by injection e with e;exact e▸hi))⟩
theorem KS.setCell {W:World}{l:Nat}(o:Nat)(u:Value)(hS:¬S l):KS S W (W.setCell ⟨l,o,none⟩ u):=
 ⟨rfl,rfl,rfl,by simp,fun i hi _=>Qad W l o u (fun e=>hS (e▸hi))⟩
theorem KS.grown {row:Option Nat}(h:a.grownBy b row)(hS:∀i,row=some i→¬S i):KS S a b:=⟨h.os,h.tape,h.output,h.size,fun i hi hl=>h.block i hl (fun e=>hS i e.symm hi)⟩
theorem KS.below {n:Nat}(h:KS S a b)(hS:∀i,i<n→S i)(hn:n≤a.heap.size):Below n a b:=⟨h.os,h.tape,h.output,h.size,fun i hi=>h.block i (hS i hi) (by omega)⟩
end
variable {F:Fence} {n:Nat} {P:Program}
def SeqIn {α:Type}(F:Fence)(n:Nat)(P:Program)(g:Nat)(lb:Array Value)(encs:α→Array Value)(Pr:(Nat→Prop)→α→World→Prop)(n₀:Nat)(S Sp:List α→Prop)(N:Nat)(w:World):Prop:=
 ∀(l:Nat) (J:List α→(Nat→Prop)→(Nat→Prop)→World→Prop) (Jx:List α→World→Prop) (W:World),Below w.heap.size w W→ (∀pre M R A B,J pre M R A→KS (fun i=>i<W.heap.size∨R i) A B→J pre M R B)→
  (∀pre M R x W1 PM,J pre M R W1→W.heap.size≤W1.heap.size→pre.length<N→Pr PM x W1→(∀i,PM i→i<W1.heap.size→W.heap.size≤i∧¬M i)→ YieldAt F (n-1) P l (encs x) W1 fun e W'=>
    (e=.returned (.bool true)∧∃M' R',J (pre++[x]) M' R' W'∧KS (fun i=>i<n₀∨(W.heap.size≤i∧¬M i)) W1 W'∧(∀i,M' i→M i∨(W1.heap.size≤i∧i<W'.heap.size))∧(∀i,R' i→R i∨(PM i∧i<W1.heap.size)∨(W1.heap.size≤i∧i<W'.heap.size)))∨
    (e=.returned (.bool false)∧Jx (pre++[x]) W'))→
  J [] (fun _=>False) (fun _=>False) W→
  CallsIn F n P g (#[.func (.yield l) #[] #[]]++lb) W fun e W'=>(∃v,e=.returned v)∧((∃xs,S xs∧∃M R,J xs M R W')∨(∃pre,Sp pre∧Jx pre W'))
def inPost {α:Type}(n₀ n0:Nat)(I:List α→(Nat→Prop)→(Nat→Prop)→World→Prop)(Ix:Code→List α→World→Prop)(M R PM:Nat→Prop)(xs:List α)(W:World):Exit→Act→World→Prop
 |.normal,_,W'=>∃M' R',I xs M' R' W'∧KS (fun i=>i<n₀∨(n0≤i∧¬M i)) W W'∧(∀i,M' i→M i∨(W.heap.size≤i∧i<W'.heap.size))∧(∀i,R' i→R i∨(PM i∧i<W.heap.size)∨(W.heap.size≤i∧i<W'.heap.size))
 |.ret,_,W'=>Ix .ret xs W'∧KS (fun i=>i=n0∨i=n0+1) W W'
 |.exit id,_,W'=>Ix (.exit id) xs W'∧KS (fun i=>i=n0∨i=n0+1) W W'
 |.goto t,_,W'=>Ix (.goto t) xs W'∧KS (fun i=>i=n0∨i=n0+1) W W'
 |.panic _,_,_=>False
 |.outgrown,_,_=>False
theorem Qbq {α:Type}{g:Operand}{ps:Array Tmp}{assign body:Code}{Q:Exit→Act→World→Prop}{a:Act}{w:World} (hro:F.round=none) (h1:1≤n) {gf:Nat} {lb:Array Value} (hg:a.eval g=.func (.func gf) #[] lb) (hFg:F.fn gf) (eg:∀args w,(callFunc gf args).run P w=.ok (.enter gf args) w) {encs:α→Array Value} {Pr:(Nat→Prop)→α→World→Prop} {n₀:Nat} {S Sp:List α→Prop} {N:Nat} {w0:World} (hseq:SeqIn F (n-1) P gf lb encs Pr n₀ S Sp N w0) (hb0:Below w0.heap.size w0 w) (hn0:n₀≤w.heap.size) (hps:∀x,(encs x).size=ps.size) (hPr:∀PM x A B,Pr PM x A→KS PM A B→Pr PM x B) (hPm:∀(PM PM':Nat→Prop) x A,Pr PM x A→(∀i,PM i→i<A.heap.size→PM' i)→Pr PM' x A) (I:List α→(Nat→Prop)→(Nat→Prop)→World→Prop) (Ix:Code→List α→World→Prop) (hI:∀pre M R A B,I pre M R A→KS (fun i=>i<w.heap.size∨R i) A B→I pre M R B) (hIx:∀c,OwnFrom w.heap.size (Ix c)) (h0:I [] (fun _=>False) (fun _=>False) w) (Ax:Nat→α→Act→World→Prop) (hAx:∀k x a',OwnFrom w.heap.size (fun(_:Unit) W=>Ax k x a' W))
 (hassign:∀(l:Nat) (x:α) (W:World) (K:Act→World→Prop),(∀a' W',Below W.heap.size W W'→Ax W.heap.size x a' W'→K a' W')→ assign.wpIn (F.inRound l) (n-1-1) P (Exit.then K (fun _ _ _=>False)) {tmps:=(ps.zip (encs x)).foldl (fun t (p,v)=>t.setIfInBounds p v) a.tmps,defers:=[]} W)
 (hbody:∀(l:Nat) (pre:List α) (M R PM:Nat→Prop) (x:α) (a':Act) (W Wp:World),I pre M R Wp→Wp.heap.size≤W.heap.size→I pre M R W→w.heap.size+2≤W.heap.size→(∀i,M i→w.heap.size+2≤i)→(∀i,R i→w.heap.size+2≤i)→Ax Wp.heap.size x a' W→pre.length<N→Pr PM x W→(∀i,PM i→w.heap.size+2≤i∧¬M i∧i<Wp.heap.size)→ body.wpIn (F.inRound l) (n-1-1) P (inPost n₀ w.heap.size I Ix M R PM (pre++[x]) W) a' W)
 (hdone:∀(D:Nat) (xs:List α) (M R:Nat→Prop) (W:World),w.heap.size≤D→D<w.heap.size+2→S xs→I xs M R W→W.heap[D]? =some (.deferred (some []))→Q .normal {a with defers:={target:=.collected D,args:=#[]}::a.defers} W)
 (hstop:∀(D:Nat) (c:Code) (pre:List α) (W:World),w.heap.size≤D→D<w.heap.size+2→Sp pre→Ix c pre W→W.heap[D]? =some (.deferred (some []))→c.wpIn F n P Q {a with defers:={target:=.collected D,args:=#[]}::a.defers} W):
 (Code.rangeFunc g ps assign body).wpIn F n P Q a w:=by
 refine wpIn_rangeFunc ?_;intro fn hfn;rw[hro];obtain⟨rec,hrec⟩:∃rec:LoopState→Option Code→Loop,rec=fun st pe=>{state:=st,pending:=pe,fn,tmps:=a.tmps,params:=ps,assign,body,defers:=w.heap.size}:=⟨_,rfl⟩
 obtain⟨W1,hW1⟩:∃W1,(w.alloc (.deferred (some []))).alloc (.loop (rec .ready none))=W1:=⟨_,rfl⟩;have hs1:W1.heap.size=w.heap.size+2:=by rw[←hW1];simp
 have hL1:W1.heap[w.heap.size+1]? =some (.loop (rec .ready none)):=by
  rw[←hW1];have:=World.alloc_heap_new (w.alloc (.deferred (some []))) (.loop (rec .ready none));rwa [World.size_alloc] at this
 have hK1:W1.heap[w.heap.size]? =some (.deferred (some [])):=by
  rw[←hW1];exact(Below.heap_alloc _ _ _ (by simp)).trans (World.alloc_heap_new w _)
 have hbw:Below w.heap.size w W1:=by rw[←hW1];exact((Below.refl _ w).alloc nL _).alloc (by simp) _
 have hI1:I [] (fun _=>False) (fun _=>False) W1:=hI _ _ _ _ _ h0 (KS.of_below hbw _)
 refine⟨w.heap.size+1,[{target:=.collected w.heap.size,args:=#[]}],W1,{target:=.fn (.func gf) lb,args:=#[.func (.yield (w.heap.size+1)) #[] #[]]},W1,gf,#[.func (.yield (w.heap.size+1)) #[] #[]]++lb,W1,by rw[←hW1,hrec];exact run_enterLoop_outer _ _ _ _ _,by simp only[resolve,hg];simp[go_sem],fun f' hf'=>by simp[Target.leads] at hf';subst hf';exact hFg,by simp[invoke,go_sem,eg],fun _=>h1,?_⟩
 refine(hseq (w.heap.size+1) (fun pre M R W=>I pre M R W∧W1.heap.size≤W.heap.size∧(∀i,M i→w.heap.size+2≤i)∧(∀i,R i→w.heap.size+2≤i)∧W.heap[w.heap.size+1]? =some (.loop (rec .ready none))∧W.heap[w.heap.size]? =some (.deferred (some []))) (fun pre W=>∃c,Ix c pre W∧W.heap[w.heap.size+1]? =some (.loop (rec .done (some c)))∧W.heap[w.heap.size]? =some (.deferred (some []))) W1 (hb0.trans (hbw.mono hb0.size)) ?_ ?_ ⟨hI1,Nat.le_refl _,fun _ h=>h.elim,fun _ h=>h.elim,hL1,hK1⟩).mono ?_
 ·rintro pre M R A B ⟨hi,hsz,hM,hR,hl,hk⟩ hks;exact⟨hI _ _ _ _ _ hi (hks.mono fun i h _=>h.imp (fun h=>by omega) id),Nat.le_trans hsz hks.size,hM,hR,(hks.block _ (.inl (by omega)) (by omega)).trans hl,(hks.block _ (.inl (by omega)) (by omega)).trans hk⟩
 ·rintro pre M R x W PM ⟨hi,hsz,hM,hR,hl,hk⟩ _ hlen hpr hpm;have hy:=run_yield (P:=P) (args:=encs x) hl (by rw[hrec];exact hps x);rw[hrec] at hy;refine⟨fn,_,assign,body,hy,roundIn_of_wpIn hfn (hassign _ x W _ ?_)⟩;clear hy;intro a' Wa hba hax;have hla:Wa.heap[w.heap.size+1]? =some (.loop (rec .ready none)):=(hba.block _ (by omega)).trans hl;have hka:Wa.heap[w.heap.size]? =some (.deferred (some [])):=(hba.block _ (by omega)).trans hk;have hia:=hI _ _ _ _ _ hi (KS.of_below hba _);have hpa:=hPm PM (fun i=>PM i∧i<W.heap.size) x W hpr (fun i h hl=>⟨h,hl⟩);have hpa:=hPr _ x W Wa hpa (KS.of_below hba _);have hza:=hba.size;refine⟨_,run_beginRound hla (by rw[hrec]),?_⟩;obtain⟨Wb,hWb⟩:∃Wb,Wa.putObj (w.heap.size+1) (.loop {rec .ready none with state:=.busy})=Wb:=⟨_,rfl⟩;have hgb:=grownBy_putObj' Wa (w.heap.size+1) (.loop {rec .ready none with state:=.busy});rw[hWb] at hgb;have hlb:Wb.heap[w.heap.size+1]? =some (.loop {rec .ready none with state:=.busy}):=(by rw[←hWb];exact World.putObj_heap_same (by omega));have hkb:Wb.heap[w.heap.size]? =some (.deferred (some [])):=(by rw[←hWb];exact(World.putObj_heap_other (by omega)).trans hka);have hzb:Wa.heap.size≤Wb.heap.size:=hgb.size
  have hib:I pre M R Wb:=hI _ _ _ _ _ hia (KS.grown hgb (fun i e h=>by
   injection e with e
   rcases h with h|h
   ·omega
   ·have:=hR i h;omega))
  have hpb:Pr (fun i=>PM i∧i<W.heap.size) x Wb:=hPr _ x Wa Wb hpa (KS.grown hgb (fun i e h=>by
   injection e with e
   have:=(hpm i h.1 h.2).1
   omega))
  rw[hWb];refine wpIn_mono (hbody _ pre M R (fun i=>PM i∧i<W.heap.size) x a' Wb W hi (by omega) hib (by omega) hM hR (by rw[←hWb];exact(hAx _ x a').putObj (s:=()) _ hax (by omega) hla rfl) hlen hpb (fun i h=>⟨by have:=(hpm i h.1 h.2).1;omega,(hpm i h.1 h.2).2,h.2⟩)) ?_;have fin:∀(jump:Option Code) (W3:World),Wb.heap.size≤W3.heap.size→W3.heap[w.heap.size+1]? =Wb.heap[w.heap.size+1]? →W3.heap[w.heap.size]? =Wb.heap[w.heap.size]? → (Instr.endRound (w.heap.size+1) jump).run P W3=.ok (.bool jump.isNone) (W3.putObj (w.heap.size+1) (.loop (rec (if jump.isNone then .ready else .done) jump)))∧W3.heap[w.heap.size+1]? =some (.loop {rec .ready none with state:=.busy})∧ (W3.putObj (w.heap.size+1) (.loop (rec (if jump.isNone then .ready else .done) jump))).heap[w.heap.size+1]? =some (.loop (rec (if jump.isNone then .ready else .done) jump))∧ (W3.putObj (w.heap.size+1) (.loop (rec (if jump.isNone then .ready else .done) jump))).heap[w.heap.size]? =some (.deferred (some [])):=fun jump W3 hz3 e1 e2=>by
   have hl3:=e1.trans hlb;have:=run_endRound (P:=P) jump hl3;rw[hrec] at this ⊢;exact⟨this,by rw[hrec] at hl3;exact hl3,World.putObj_heap_same (by omega),(World.putObj_heap_other (by omega)).trans (e2.trans hkb)⟩
  have leave:∀(c:Code) (W3:World),Ix c (pre++[x]) W3→KS (fun i=>i=w.heap.size∨i=w.heap.size+1) Wb W3→ (Instr.endRound (w.heap.size+1) (some c)).run P W3=.ok (.bool false) (W3.putObj (w.heap.size+1) (.loop (rec .done (some c))))∧ ∃c',Ix c' (pre++[x]) (W3.putObj (w.heap.size+1) (.loop (rec .done (some c))))∧(W3.putObj (w.heap.size+1) (.loop (rec .done (some c)))).heap[w.heap.size+1]? =some (.loop (rec .done (some c')))∧ (W3.putObj (w.heap.size+1) (.loop (rec .done (some c)))).heap[w.heap.size]? =some (.deferred (some [])):=fun c W3 hix hk3=>by
   obtain⟨hr,hl3,hl4,hk4⟩:=fin (some c) W3 hk3.size (hk3.block _ (.inr rfl) (by omega)) (hk3.block _ (.inl rfl) (by omega));exact⟨hr,c,(hIx c).putObj _ hix (by omega) hl3 rfl,hl4,hk4⟩
  rintro e a3 W3 hp;cases e with
  |normal=>
   obtain⟨M',R',hi3,hk3,hM',hR'⟩:=hp;obtain⟨hr,hl3,hl4,hk4⟩:=fin none W3 hk3.size (hk3.block _ (.inr ⟨by omega,fun h=>by have:=hM _ h;omega⟩) (by omega)) (hk3.block _ (.inr ⟨by omega,fun h=>by have:=hM _ h;omega⟩) (by omega));have hz3:=hk3.size
   have hR2:∀i,R' i→w.heap.size+2≤i:=fun i h=>by
    rcases hR' i h with h|h|h
    ·exact hR i h
    ·have:=(hpm i h.1.1 h.1.2).1;omega
    ·omega
   have hg3:=grownBy_putObj' W3 (w.heap.size+1) (.loop (rec (if(none:Option Code).isNone then .ready else .done) none));refine⟨_,_,hr,.inl ⟨rfl,M',R',⟨hI _ _ _ _ _ hi3 (KS.grown hg3 (fun i e h=>?_)),by have:=hg3.size;omega,fun i h=>?_,hR2,hl4,hk4⟩,?_,fun i h=>?_,fun i h=>?_⟩⟩
   ·injection e with e
    rcases h with h|h
    ·omega
    ·have:=hR2 i h;omega
   ·rcases hM' i h with h|h
    ·exact hM i h
    ·omega
   ·have k1:KS (fun i=>i<n₀∨(W1.heap.size≤i∧¬M i)) W Wa:=KS.of_below hba _;have k2:KS (fun i=>i<n₀∨(W1.heap.size≤i∧¬M i)) Wa Wb:=KS.grown hgb (fun i e h=>by injection e with e;omega);have k3:KS (fun i=>i<n₀∨(W1.heap.size≤i∧¬M i)) Wb W3:=hk3.mono (fun i h _=>h.imp id (fun h=>⟨by omega,h.2⟩));exact((k1.trans k2).trans k3).trans (KS.grown hg3 (fun i e h=>by injection e with e;omega))
   ·rcases hM' i h with h|h
    ·exact .inl h
    ·exact .inr ⟨by omega,Nat.lt_of_lt_of_le h.2 hg3.size⟩
   ·rcases hR' i h with h|h|h
    ·exact .inl h
    ·exact .inr (.inl h.1)
    ·exact .inr (.inr ⟨by omega,Nat.lt_of_lt_of_le h.2 hg3.size⟩)
  |ret=>
   obtain⟨hr,hh⟩:=leave .ret W3 hp.1 hp.2;exact⟨_,_,hr,.inr ⟨rfl,hh⟩⟩
  |exit id=>
   obtain⟨hr,hh⟩:=leave (.exit id) W3 hp.1 hp.2;exact⟨_,_,hr,.inr ⟨rfl,hh⟩⟩
  |goto t=>
   obtain⟨hr,hh⟩:=leave (.goto t) W3 hp.1 hp.2;exact⟨_,_,hr,.inr ⟨rfl,hh⟩⟩
  |panic ch=>exact hp.elim
  |outgrown=>exact hp.elim
 ·rintro e W2 ⟨⟨v,rfl⟩,(⟨xs,hS,M,R,hi,hsz,hM,hR,hl,hk⟩|⟨pre,hSp,c,hi,hl,hk⟩)⟩
  ·refine⟨none,_,by have:=run_endLoop (P:=P) hl (by rw[hrec];simp);rw[hrec] at this;exact this,hdone _ xs M R _ nL (by omega) hS (hI _ _ _ _ _ hi (KS.putObj _ (fun h=>?_))) ((World.putObj_heap_other (by omega)).trans hk)⟩;rcases h with h|h
   ·omega
   ·have:=hR _ h;omega
  ·exact⟨some c,_,by have:=run_endLoop (P:=P) hl (by rw[hrec];simp);rw[hrec] at this;exact this,hstop _ c pre _ nL (by omega) hSp ((hIx c).putObj _ hi (by omega) hl rfl) ((World.putObj_heap_other (by omega)).trans hk)⟩
end Go.Proofs.YtegaapiocihcpaaDoor
