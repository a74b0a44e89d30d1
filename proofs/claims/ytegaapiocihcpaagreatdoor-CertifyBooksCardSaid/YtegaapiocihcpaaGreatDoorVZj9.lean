/- Texts of CbC. -/
import Derived.Test.YtegaapiocihcpaaGreatDoorVZj8
import Derived.Laws.EntriesVeiled
set_option maxHeartbeats 8000000
namespace Go.Proofs.YtegaapiocihcpaaGreatDoor
open Go.RowKit
theorem pageE_h {body:List LineP}{notes:List (List LineP)}{h:Int}(hE:Qa8 body notes h=0):4≤h∧h≤100:=by
 unfold Qa8 at hE;split at hE
 ·exact absurd hE (by decide)
 ·omega
theorem nextN_refs (n:Nat):∀(l:List Int) (next k:Int),0≤next→Qbz n next l=some k→∀x∈l,0≤x∧x<n
 |[],_,_,_,_=>by simp
 |y::l,next,k,h0,h=>by
  rw[Qbz] at h;split at h
  ·cases h
  ·rename_i hy;intro x hx;rcases List.mem_cons.1 hx with rfl|hx
   ·omega
   ·exact nextN_refs n l (next+1) k (by omega) h x hx
def vlen:Value→Nat
 |.slice _ n _=>n
 |_=>0
theorem setPages_nil (notes:List (List LineP))(h f:Nat):setPages notes h f [] []=[]:=by
 cases f with
 |zero=>rfl
 |succ f=>rw[setPages,if_pos ⟨rfl,rfl⟩]
theorem OwnP.bd {α:Type}[Rep α]{w:World}{base B:Nat}{e:TypeId}{v:Value}{l:List α}(h:OwnP w base e v l (fun b=>B≤b)):Own w base e v (l.map (Bd.mk:α→Bd α B)):=
 h.own.conv (l.map (Bd.mk:α→Bd α B)) (by rw[qM,qM]) rfl (fun i h1 h2 es he=>by
  rw[List.getElem_map] at he ⊢
  exact he)
def Refs (body:List LineP)(notes:List (List LineP)):Prop:=∀x∈body,∀n∈x.notes,0≤n∧n<notes.length
theorem pageE_refs {body:List LineP}{notes:List (List LineP)}{h:Int}(hE:Qa8 body notes h=0):Refs body notes:=by
 unfold Qa8 at hE;split at hE
 ·exact absurd hE (by decide)
 ·split at hE
  ·exact absurd hE (by decide)
  ·split at hE
   ·exact absurd hE (by decide)
   ·rename_i k hk;intro x hx n hn;exact nextN_refs _ _ 0 k (Int.le_refl _) hk n (List.mem_flatMap.2 ⟨x,hx,hn⟩)
theorem wp_que {P:Program}{α:Type}[Rep α]{o:Oper}{a:Act}{K:Act→World→Prop}{Q:Exit→Act→World→Prop}{w:World}(s x:Operand)(t:TypeId) (ho:o.op=.call {callee:=.builtin .append,args:=#[s,x],argTypes:=#[t,t]}) (base:Nat) (e:TypeId) (z:Value) (bytes:Nat) (ht:P.underlying t=some (.slice e)) (hinfo:(P.info? e).map (fun i=>(i.zero,i.size,i.bytes))=some (some z,Rep.size α,bytes)) (hzs:z.cells.size=Rep.size α) (hsz:0<Rep.size α) (ob:Option Nat) (v:Value) (l:List α) (hs:a.eval s=v) (hown:Que w base e ob v l) (A:Option Addr) (c n:Nat) (m:List α) (hx:a.eval x=.slice A n c) (hn:m.length=n) (S:Nat→Prop) (hm:Sl w S A c m) (hS:∀i,S i→i<w.heap.size→some i≠ob) (hS2:∀i,S i→i<w.heap.size) (hbytes:(l.length+n)*bytes≤140737488355328) (hml:l.length+n≤9223372036854775807) (hbase:base≤w.heap.size) (h:∀v' w' ob',Que w' base e ob' v' (l++m)→w.grownBy w' ob→(ob'=ob∨ob'=some w.heap.size)→K (a.put o.dst v') w'):o.wp P a w K Q:=by
 obtain⟨v',w',ob',hrun,h2,h3,h4⟩:=run_que (P:=P) w base t o.type e z bytes ht hinfo hzs hsz ob v l hown A c n m hn S hm hS hS2 hbytes hml hbase;unfold Oper.wp execOp;simp only[ho,resolve,invoke,builtin,Sem.run_bind,Sem.run_pure,Result.andThen_ok,List.map_toArray,List.map_cons,List.map_nil,hs,hx,hrun];exact h v' w' ob' h2 h3 h4
theorem page_info:(Tryz.prog.info? 43).map (fun i=>(i.zero,i.size,i.bytes))=some (some (.agg #[.int .i64 0,.int .i64 0,.int .i64 0,.int .i64 0,.slice none 0 0,.slice none 0 0]),6,80):=by kernel_rfl
def SP.up {α:Type}[Rep α](B:Nat)(e:TypeId)(l:List α):SP:=⟨fun v w=>OwnP w B e v l (fun b=>B≤b),fun _ _ _ h hb=>h.below hb⟩
theorem Own.up {α:Type}[Rep α]{w:World}{base B:Nat}{e:TypeId}{v:Value}{l:List α}(h:Own w base e v (l.map (Bd.mk:α→Bd α base)))(hB:B≤base):OwnP w B e v l (fun b=>B≤b):=
 ⟨(h.conv (l.map (Av.mk:α→Av α (fun b=>B≤b))) (by rw[qM,qM]) rfl (fun i h1 h2 es he=>by
   rw[List.getElem_map] at he ⊢
   exact Rep.mono (α:=α) he (fun b hb _=>⟨hb.1,Nat.le_trans hB hb.2⟩))).re hB,fun g hg=>Nat.le_trans hB (h.lt g hg).1⟩
theorem OwnP.rep {α:Type}[Rep α]{w:World}{B:Nat}{e:TypeId}{v:Value}{l:List α}{P S:Nat→Prop}(h:OwnP w B e v l P)(hl:l.length<9223372036854775808)(hS:∀i,P i→i<w.heap.size→S i):Rep.R w S [v] l:=by
 obtain⟨A,c,rfl,hs⟩:=h.sl;exact⟨A,c,rfl,hs.mono hS,hl⟩
def SP.pg (B:Nat)(x y:List LineP):SP:=⟨fun v w=>∃b va vb,v=.slice (some ⟨b,0,none⟩) 1 1∧B≤b∧b<w.heap.size∧w.heap[b]? =some (.cells #[.int .i64 0,.int .i64 0,.int .i64 0,.int .i64 0,va,vb] 43 (0,0))∧Rep.R w (fun i=>B≤i) [va] x∧Rep.R w (fun i=>B≤i) [vb] y,fun _ _ _ h hb=>by
 obtain⟨b,va,vb,h1,h2,h3,h4,h5,h6⟩:=h
 exact⟨b,va,vb,h1,h2,by have:=hb.size;omega,by rw[hb.block b h3];exact h4,Rep.keep h5 (Kept.all hb),Rep.keep h6 (Kept.all hb)⟩⟩
theorem Qcb (notes:List (List LineP))(h:Nat):∀(f:Nat) (body queue:List LineP),(setPages notes h f body queue).length≤f
 |0,_,_=>Nat.le_refl _
 |f+1,body,queue=>by
  rw[setPages];split
  ·exact Nat.zero_le _
  ·have:=Qcb notes h f (body.drop (fillP notes h body 0 (min queue.length (h-1)) queue).1) ((fillP notes h body 0 (min queue.length (h-1)) queue).2.2.drop (fillP notes h body 0 (min queue.length (h-1)) queue).2.1);simp only[qC];omega
theorem pages_step {notes:List (List LineP)}{h f ln sh:Nat}{bd qu qu1:List LineP}(h4:4≤h)(hf:Qaq bd notes+qu.length≤f)(hn:¬(bd.length=0∧qu.length=0))(hd:fillP notes h bd 0 (min qu.length (h-1)) qu=(ln,sh,qu1)):
 Qaq (bd.drop ln) notes+(qu1.drop sh).length≤f-1∧setPages notes h f bd qu=⟨0,0,0,0,bd.take ln,qu1.take sh⟩::setPages notes h (f-1) (bd.drop ln) (qu1.drop sh):=by
 have hn2:¬(bd=[]∧qu=[]):=fun⟨h1,h2⟩=>hn ⟨by rw[h1];rfl,by rw[h2];rfl⟩
 have h1:=page_less notes h h4 bd qu hn2;simp only[hd] at h1;obtain⟨f',rfl⟩:∃f',f=f'+1:=⟨f-1,by omega⟩;refine⟨by omega,?_⟩;rw[setPages,if_neg hn2];simp only[hd,Nat.add_sub_cancel]
theorem kept_two {B:Nat}{w a b:World}(h1:Below B w a)(h2:Below B w b):Kept (fun i=>i<B) a b:=fun i hi _=>(h2.block i hi).trans (h1.block i hi).symm
theorem Sl.old {α:Type}[Rep α]{B:Nat}{w w':World}{A:Option Addr}{c:Nat}{l:List α}(h:Sl w (fun b=>b<B) A c l)(hk:Kept (fun b=>b<B) w w')(hB:B≤w'.heap.size):Sl w' (fun b=>b<B) A c l:=by
 refine⟨h.1,h.2.1,fun hn=>?_⟩;obtain⟨b,o,e,hb,hlt,hx⟩:=h.2.2 hn;refine⟨b,o,e,hb,Nat.lt_of_lt_of_le hb hB,fun i hi=>?_⟩;obtain⟨es,hr,hc⟩:=hx i hi;exact⟨es,Rep.keep hr hk,fun j u hu=>hk.cell hb (hc j u hu)⟩
theorem fits_get {h l s q:Nat}{body:List LineP}(hf:QcH h l s q body=true):∃hlt:l<body.length,QcD h l s q body[l]=true:=by
 unfold QcH at hf;by_cases hlt:l<body.length
 ·rw[qG hlt] at hf;exact⟨hlt,hf⟩
 ·rw[List.getElem?_eq_none (by omega)] at hf;cases hf
theorem fillP_go {notes:List (List LineP)}{h l s:Nat}{body queue:List LineP}(hlt:l<body.length)(hf:QcD h l s queue.length body[l]=true):
 fillP notes h (body.drop l) l s queue=fillP notes h (body.drop (l+1)) (l+1) (Qb5 h l s (queue++Qad notes body[l]).length) (queue++Qad notes body[l]):=by
 rw[List.drop_eq_getElem_cons hlt,Qcw,if_pos hf]
theorem fillP_stop {notes:List (List LineP)}{h l s:Nat}{body queue:List LineP}(hf:QcH h l s queue.length body=false):fillP notes h (body.drop l) l s queue=(l,s,queue):=by
 unfold QcH at hf;by_cases hlt:l<body.length
 ·rw[qG hlt] at hf;have hf:QcD h l s queue.length body[l]=false:=hf;rw[List.drop_eq_getElem_cons hlt,Qcw,if_neg (by rw[hf];simp)]
 ·rw[List.drop_of_length_le (by omega)];rfl
theorem shown_step {h l s q q2:Nat}{x:LineP}(hf:QcD h l s q x=true)(hi:s=0→q=0)(hx:x.notes=[]→q2=q)(hlt:s<q2):
 0≤QcE h (l+1) s-1+((min s 1:Nat):Int)∧(s:Int)+min ((q2:Int)-s) (QcE h (l+1) s-1+((min s 1:Nat):Int))=((Qb5 h l s q2:Nat):Int)∧1≤Qb5 h l s q2:=by
 unfold Qb5 QcE;rw[if_pos hlt];unfold QcD QcE at hf;split at hf
 ·rename_i hn;have:=hx hn;have:=of_decide_eq_true hf;omega
 ·simp only[Bool.and_eq_true,decide_eq_true_eq] at hf;omega
theorem notes_small {notes:List (List LineP)}(h:∀n∈notes,Qb0 n)(x:LineP):Qb0 (Qad notes x):=by
 intro y hy;unfold Qad at hy;obtain⟨n,-,hn⟩:=List.mem_flatMap.1 hy;rw[List.getD_eq_getElem?_getD] at hn;by_cases hk:n.toNat<notes.length
 ·rw[qG hk] at hn;exact h _ (List.getElem_mem hk) y hn
 ·rw[List.getElem?_eq_none (by omega)] at hn;cases hn
theorem take_all {notes:List (List LineP)}{bd:List LineP}{l:Nat}(h:l<bd.length):(bd.take (l+1)).flatMap (Qad notes)=(bd.take l).flatMap (Qad notes)++Qad notes bd[l]:=by
 rw[qT h,List.flatMap_append];simp
def Qb6 (notes:List (List LineP))(x:LineP)(j:Nat):List LineP:=(x.notes.take j).flatMap fun n=>notes.getD n.toNat []
theorem noteTo_step {notes:List (List LineP)}{x:LineP}{j:Nat}(h:j<x.notes.length)(hk:x.notes[j].toNat<notes.length):Qb6 notes x (j+1)=Qb6 notes x j++notes[x.notes[j].toNat]:=by
 unfold Qb6;rw[qT h,List.flatMap_append];simp[qG hk]
theorem noteTo_all (notes:List (List LineP))(x:LineP):Qb6 notes x x.notes.length=Qad notes x:=by unfold Qb6 Qad;rw[List.take_length]
theorem noteTo_le (notes:List (List LineP))(x:LineP)(j:Nat):(Qb6 notes x j).length≤(Qad notes x).length:=by
 have h:Qad notes x=Qb6 notes x j++(x.notes.drop j).flatMap fun n=>notes.getD n.toNat []:=by
  unfold Qb6 Qad;rw[←List.flatMap_append,List.take_append_drop]
 rw[h,qA];omega
theorem Qes (notes:List (List LineP))(n:Nat):∀(l:List Int) (next k:Int),0≤next→n=notes.length→Qbz n next l=some k→(l.flatMap fun q=>notes.getD q.toNat []).length≤((notes.drop next.toNat).flatten).length
 |[],_,_,_,_,_=>Nat.zero_le _
 |q::l,next,k,h0,hn,h=>by
  rw[Qbz] at h;split at h
  ·cases h
  ·rename_i hq;have ih:=Qes notes n l (next+1) k (by omega) hn h;have hlt:next.toNat<notes.length:=(by omega);have e:q=next:=by omega
   subst e;rw[List.drop_eq_getElem_cons hlt,List.flatMap_cons,List.flatten_cons,qA,qA,List.getD_eq_getElem?_getD,qG hlt];rw[show(q+1).toNat=q.toNat+1 by omega] at ih;simpa using ih
theorem QcK (notes:List (List LineP)):∀body:List LineP,Qaq body notes=body.length+(body.flatMap (Qad notes)).length
 |[]=>rfl
 |x::body=>by
  have:=QcK notes body;unfold Qaq at*;rw[List.map_cons,List.sum_cons,this,List.flatMap_cons,qA,qC];omega
theorem Qc9 {body:List LineP}{notes:List (List LineP)}{h:Int}(hE:Qa8 body notes h=0):Qaq body notes≤body.length+notes.flatten.length:=by
 rw[QcK]
 have e:body.flatMap (Qad notes)=(body.flatMap (·.notes)).flatMap fun q=>notes.getD q.toNat []:=by
  rw[List.flatMap_assoc];rfl
 rw[e];unfold Qa8 at hE;split at hE
 ·exact absurd hE (by decide)
 ·split at hE
  ·exact absurd hE (by decide)
  ·split at hE
   ·exact absurd hE (by decide)
   ·rename_i k hk;have:=Qes notes notes.length _ 0 k (Int.le_refl _) rfl hk;simpa using this
set_option maxRecDepth 100000 in
theorem pset_any (A B:Option Addr)(c d:Nat)(body:List LineP)(notes:List (List LineP))(h:Int)(w:World)(ha:Sl w (fun b=>b<w.heap.size) A c body)(hb:Sl w (fun b=>b<w.heap.size) B d notes)(hI:I64 h)(hln:notes.length≤1048576) (hall:body.length+notes.flatten.length≤1048576) (hsm:Qb0 body) (hsn:∀n∈notes,Qb0 n):
 Calls Tryz.prog 173 #[.slice A body.length c,.slice B notes.length d,.int .i64 h] w fun e w'=>∃v,e=.returned (.tuple #[v,.int .i64 (Qa8 body notes h)])∧ (Qa8 body notes h=0→Own w' w.heap.size 43 v ((setPages notes h.toNat (Qaq body notes) body []).map (Bd.mk:PageP→Bd PageP w.heap.size)))∧(Qa8 body notes h≠0→v=.slice none 0 0)∧Below w.heap.size w w':=by
 have HC:Hid (∀W,Below w.heap.size w W→Calls Tryz.prog 197 #[.slice A body.length c,.slice B notes.length d,.int .i64 h] W fun e w'=>e=.returned (.int .i64 (Qa8 body notes h))∧Below W.heap.size W w'):=
  Lh (fun W hW=>pagecheck_any A B c d body notes h W (ha.to hW) (hb.to hW) hln)
 have HA:=Lh ha;have HBn:=Lh hb;have HSM:=Lh hsm;have HSN:=Lh hsn;have HB0:Hid (Below w.heap.size w ((w.alloc (.cells #[.slice A body.length c] 41)).alloc (.cells #[.int .i64 h] 3))):=Lh ((bR.alloc nL _).alloc (by simp) _);have HBB:Hid (ABox ((w.alloc (.cells #[.slice A body.length c] 41)).alloc (.cells #[.int .i64 h] 3)) w.heap.size 41 [.slice A body.length c]):=Lh ((Below.heap_alloc _ _ _ (by simp)).trans (heap_alloc_new w _));have HHB:Hid (ABox ((w.alloc (.cells #[.slice A body.length c] 41)).alloc (.cells #[.int .i64 h] 3)) (w.heap.size+1) 3 [.int .i64 h]):=Lh (Qai (by simp));have hbb:=HBB.out.cell 0 rfl;have hhb:=HHB.out.cell 0 rfl;have hsz0:((w.alloc (.cells #[.slice A body.length c] 41)).alloc (.cells #[.int .i64 h] 3)).heap.size=w.heap.size+2:=by simp
 clear ha hb hsm hsn;by_cases hE:Qa8 body notes h=0
 ·obtain⟨hn,rfl⟩:∃hn:Nat,h=(hn:Int):=⟨h.toNat,by have:=pageE_h hE;omega⟩;have hh:=pageE_h hE;have h4:4≤hn:=(by omega);have h100:hn≤100:=(by omega);have HREF:=Lh (pageE_refs hE);have hall:Qaq body notes≤1048576:=Nat.le_trans (Qc9 hE) hall;have HE:=Lh hE;simp only[hE] at HC ⊢;rw[Int.toNat_natCast];clear hE hh;go_enter Tryz.func173,Tryz.ntmps173;go_wp2_with (first|(go_at_call 197;refine(HC.out _ HB0.out).mono ?_;rintro e w2 ⟨rfl,hb2⟩)|fail);have hqb0:ABox (w2.alloc (.cells #[.slice none 0 0] 41)) w2.heap.size 41 [.slice none 0 0]:=heap_alloc_new w2 _;have hbw2:Below w.heap.size w w2:=HB0.out.trans (hb2.mono HB0.out.size);have hz2:w.heap.size+2≤w2.heap.size:=(by have:=hb2.size;omega);have hba:Below w2.heap.size w2 (w2.alloc (.cells #[.slice none 0 0] 41)):=bR.alloc nL _;have HP0:Hid (PO w (w2.alloc (.cells #[.slice none 0 0] 41)) w.heap.size (w.heap.size+1) w2.heap.size [] A c body hn none (.slice none 0 0) [] (.slice none 0 0) []):=Lh
   ⟨hbw2.trans (hba.mono hbw2.size),(HBB.out.to hb2).to hba,(HA.out.keep (Kept.all hbw2) hbw2.size).keep (Kept.all hba) hba.size,(HHB.out.to hb2).to hba,hqb0,Que.nil _ _ _,OwnP.nil _ _ _ _,by simp;omega,fun x hx=>by
    have hq:x=w.heap.size∨x=w.heap.size+1∨x=w2.heap.size:=(by simpa using hx)
    refine⟨?_,?_,by simp⟩
    ·rcases hq with h|h|h<;>omega
    ·rw[World.size_alloc];rcases hq with h|h|h<;>omega⟩
  obtain⟨Qb,hQb⟩:∃Qb,w2.heap.size=Qb:=⟨_,rfl⟩;rw[hQb] at HP0 ⊢;have HN:∃N,(setPages notes hn (Qaq body notes) body []).length=N:=⟨_,rfl⟩;obtain⟨N,hN⟩:=HN;have HNE:=Lh hN;clear hqb0 hbw2 hz2 hba hb2 hsz0 hbb hhb HBB HHB HB0 HC hN hQb hI
  go_loopw [9] (fun v9 wr=>∃(A':Option Addr) (c':Nat) (bd:List LineP) (ob:Option Nat) (qv:Value) (qu:List LineP) (pgs:List PageP) (f:Nat),Hid (PO w wr w.heap.size (w.heap.size+1) Qb [] A' c' bd hn ob qv qu v9 pgs)∧Hid (Qaq bd notes+qu.length≤f∧f≤1048576)∧ Hid (pgs++setPages notes hn f bd qu=setPages notes hn (Qaq body notes) body [])∧Hid (Qb0 bd∧Qb0 qu∧Refs bd notes)) (fun v9 _=>N-vlen v9)
  (case atStart=>exact⟨A,c,body,none,_,[],[],_,HP0,Lh ⟨Nat.le_refl _,hall⟩,Lh rfl,Lh ⟨HSM.out,fun x hx=>absurd hx (by simp),HREF.out⟩⟩);case round=>
   clear HP0 w2;obtain⟨A',c',bd,ob,qv,qu,pgs,f,HP,HF,HT,HS⟩:=hrel;have hbb:=HP.out.bb.cell 0 rfl;obtain⟨Aq,cq,hqv,-,-⟩:=HP.out.q.len;rw[qM] at hqv;subst hqv;have hqb:=HP.out.qb.cell 0 rfl;have hhb:=HP.out.hb.cell 0 rfl;go_upto_region 6 with(fail);go_cut [32] from 25 to 94 (fun v32 wx=>v32=.bool (!(decide (bd.length=0)&&decide (qu.length=0)))∧wx=wr);case first=>
    by_cases h1:bd.length=0
    ·have H1:=Lh h1;by_cases h2:qu.length=0
     ·have H2:=Lh h2;rw[h1] at hbb;rw[h2] at hqb;clear h1 h2;go_wp2_with fail;go_meet;exact⟨by rw[decide_eq_true H1.out,decide_eq_true H2.out];rfl,rfl⟩
     ·have H2:=Lh h2;have hg:0<qu.length:=(by omega);rw[h1] at hbb;clear h1 h2;go_wp2_with fail;go_meet;exact⟨by rw[decide_eq_true H1.out,decide_eq_false H2.out];rfl,rfl⟩
    ·have H1:=Lh h1;have hg:0<bd.length:=(by omega);clear h1;go_wp2_with fail;go_meet;exact⟨by rw[decide_eq_false H1.out];rfl,rfl⟩
   case rest=>
    obtain⟨rfl,rfl⟩:=hcut;by_cases hne:bd.length=0∧qu.length=0
    ·rw[decide_eq_true hne.1,decide_eq_true hne.2]
     have hpl:Hid (Own wc w.heap.size 43 u9 ((setPages notes hn (Qaq body notes) body []).map (Bd.mk:PageP→Bd PageP w.heap.size))∧Below w.heap.size w wc):=Lh (by
      have h1:=List.eq_nil_of_length_eq_zero hne.1
      have h2:=List.eq_nil_of_length_eq_zero hne.2
      have h3:=HT.out
      rw[h1,h2,setPages_nil,List.append_nil] at h3
      rw[←h3]
      exact⟨(HP.out.pg.mono (Q:=fun b=>w.heap.size≤b) (fun i hi _=>hi.1)).bd,HP.out.bl⟩)
     clear hne;go_wp2_with fail;go_ret2;exact⟨_,rfl,fun _=>hpl.out.1,fun h=>absurd rfl h,hpl.out.2⟩
    ·have hb0:(!(decide (bd.length=0)&&decide (qu.length=0)))=true:=by
      rw[Bool.not_eq_true',Bool.and_eq_false_iff];by_cases h:bd.length=0
      ·exact .inr (decide_eq_false fun h2=>hne ⟨h,h2⟩)
      ·exact .inl (decide_eq_false h)
     rw[hb0];have HNE1:=Lh hne;clear hne hb0;go_upto_region 7 with(fail);obtain⟨wm,rfl⟩:∃wm:World,wm=wc:=⟨_,rfl⟩;go_cut [11,12] from 25 to 94 (fun v11 v12 wx=>∃Lb Sb:Nat,v11=.pointer (some ⟨Lb,0,none⟩)∧v12=.pointer (some ⟨Sb,0,none⟩)∧Hid (Lb≠Sb∧wm.heap.size≤Lb∧wm.heap.size≤Sb)∧Hid (ABox wx Lb 3 [.int .i64 0])∧Hid (ABox wx Sb 3 [.int .i64 ((min qu.length (hn-1):Nat):Int)])∧Hid (Below wm.heap.size wm wx));case first=>
      refine Qaj (fun w'=>w'.cell? ⟨Qb,0,none⟩=some (.slice Aq qu.length cq)∧w'.cell? ⟨w.heap.size+1,0,none⟩=some (.int .i64 (hn:Int))) (fun i=>decide (i<8)) (by kernel_rfl) ?_;have hb0:Hid (Below wm.heap.size wm wm.drew):=Lh bR.drew;have hS0:wm.drew.cell? ⟨Qb,0,none⟩=some (.slice Aq qu.length cq)∧wm.drew.cell? ⟨w.heap.size+1,0,none⟩=some (.int .i64 (hn:Int)):=⟨hqb,hhb⟩;generalize wm.drew=W0 at*;have HQl:=World.block_lt_of_cell? W0 ⟨Qb,0,none⟩ hS0.1;have HHl:=World.block_lt_of_cell? W0 ⟨w.heap.size+1,0,none⟩ hS0.2;have HSP:Hid (∀W,Below W0.heap.size W0 W→W.cell? ⟨Qb,0,none⟩=some (.slice Aq qu.length cq)∧W.cell? ⟨w.heap.size+1,0,none⟩=some (.int .i64 (hn:Int))):=Lh (fun W hW=>⟨(hW.cell (p:=⟨Qb,0,none⟩) HQl).trans hS0.1,(hW.cell (p:=⟨w.heap.size+1,0,none⟩) HHl).trans hS0.2⟩);clear HQl HHl;obtain⟨mv,hmv⟩:∃mv:Int,min (qu.length:Int) (IntKind.i64.wrap ((hn:Int)-1))=mv:=⟨_,rfl⟩;have HMV:Hid (((min qu.length (hn-1):Nat):Int)=mv):=Lh (by rw[←hmv,IntWalk.i64_in _ (by omega)];omega);refine tE 0 ⟨some 33,Op.load 41 (.tmp 10),41,_,_,_⟩ ?_ rfl ?zq0 (hS0) ?zq1;(case zq0=>intro wS hSw;(have hq:=hSw.1);clear hSw;go_simp;(try with_reducible rfl));(all_goals try go_frame);refine tE 1 ⟨some 34,Op.call {callee:=Callee.builtin Builtin.len,args:=#[Operand.tmp 33],argTypes:=#[41]},3,_,_,_⟩ ?_ rfl ?zq2 (hS0) ?zq3;(case zq2=>intro _ s;clear s;go_simp;(try with_reducible rfl));(all_goals try go_frame);refine tE 2 ⟨some 35,Op.load 3 (.tmp 5),3,_,_,_⟩ ?_ rfl ?zq4 (hS0) ?zq5;(case zq4=>intro wS hSw;(have hq:=hSw.2);clear hSw;go_simp;(try with_reducible rfl));(all_goals try go_frame);refine tE 3 ⟨some 36,Op.binOp BinOp.sub 3 (.tmp 35) (Operand.const (Value.int IntKind.i64 1)) 3,3,_,_,_⟩ ?_ rfl ?zq6 (hS0) ?zq7;(case zq6=>intro _ s;clear s;go_simp;(try with_reducible rfl));(all_goals try go_frame);refine tE 4 ⟨some 37,Op.call {callee:=Callee.builtin Builtin.min,args:=#[Operand.tmp 34,Operand.tmp 36],argTypes:=#[3,3]},3,_,_,_⟩ ?_ rfl ?zq8 (hS0) ?zq9;(case zq8=>intro _ s;clear s;go_simp;(try with_reducible rfl));(all_goals try go_frame);refine QaW (i:=5) (j:=6) (oi:=⟨some 11,Op.alloc 3,0,_,_,_⟩) (oj:=⟨some 12,Op.alloc 3,0,_,_,_⟩) (by kernel_rfl) rfl rfl (by rfl) (by rfl) (fun K hK=>?_) (fun K hK=>?_)
      ·go_simp;refine hK _ _ (fun _=>?_) ?_
       ·exact(HSP.out _ (bR.alloc nL _))
       clear hK K;(try go_frame);refine tD 6 ⟨some 12,Op.alloc 3,0,_,_,_⟩ rfl fun K hK=>?_
       go_simp;refine hK _ _ (fun _=>?_) ?_
       ·exact(HSP.out _ ((bR.alloc nL _).alloc (by simp) _))
       clear hK K;(try go_frame);refine tD 7 ⟨none,Op.store 3 (.tmp 11) (Operand.const (Value.int IntKind.i64 0)),0,_,_,_⟩ rfl fun K hK=>?_
       go_simp;refine hK _ _ (fun _=>?_) ?_
       ·exact(HSP.out _ ((bR.alloc nL _).alloc (by simp) _))
       clear hK K;(try simp only[Act.put]);refine tD 8 ⟨none,Op.store 3 (.tmp 12) (.tmp 37),0,_,_,_⟩ rfl fun K hK=>?_
       go_simp;refine hK _ _ (fun h=>absurd h (by decide)) ?_;clear hK K;(try simp only[Act.put]);refine Qae (by kernel_rfl) ?_ _;have hx0:ABox ((W0.alloc (.cells #[.int .i64 0] 3)).alloc (.cells #[.int .i64 mv] 3)) W0.heap.size 3 [.int .i64 0]:=(Below.heap_alloc _ _ _ (by simp)).trans (heap_alloc_new W0 _);have hx1:ABox ((W0.alloc (.cells #[.int .i64 0] 3)).alloc (.cells #[.int .i64 mv] 3)) (W0.heap.size+1) 3 [.int .i64 mv]:=Qai (by simp);have hbb2:Below W0.heap.size W0 ((W0.alloc (.cells #[.int .i64 0] 3)).alloc (.cells #[.int .i64 mv] 3)):=((Below.refl W0.heap.size W0).alloc nL (.cells #[.int .i64 0] 3)).alloc (by simp) (.cells #[.int .i64 mv] 3);unfold Exit.then;go_wp2_with fail;go_meet;exact⟨W0.heap.size,(W0.heap.size+1),rfl,rfl,Lh ⟨by omega,by have:=hb0.out.size;omega,by have:=hb0.out.size;omega⟩,Lh hx0,Lh (by rw[HMV.out];exact hx1),Lh (hb0.out.trans (hbb2.mono hb0.out.size))⟩
      ·go_simp;refine hK _ _ (fun _=>?_) ?_
       ·exact(HSP.out _ (bR.alloc nL _))
       clear hK K;(try go_frame);refine tD 5 ⟨some 11,Op.alloc 3,0,_,_,_⟩ rfl fun K hK=>?_
       go_simp;refine hK _ _ (fun _=>?_) ?_
       ·exact(HSP.out _ ((bR.alloc nL _).alloc (by simp) _))
       clear hK K;(try go_frame);refine tD 7 ⟨none,Op.store 3 (.tmp 11) (Operand.const (Value.int IntKind.i64 0)),0,_,_,_⟩ rfl fun K hK=>?_
       go_simp;refine hK _ _ (fun _=>?_) ?_
       ·exact(HSP.out _ ((bR.alloc nL _).alloc (by simp) _))
       clear hK K;(try simp only[Act.put]);refine tD 8 ⟨none,Op.store 3 (.tmp 12) (.tmp 37),0,_,_,_⟩ rfl fun K hK=>?_
       go_simp;refine hK _ _ (fun h=>absurd h (by decide)) ?_;clear hK K;(try simp only[Act.put]);refine Qae (by kernel_rfl) ?_ _;have hx0:ABox ((W0.alloc (.cells #[.int .i64 mv] 3)).alloc (.cells #[.int .i64 0] 3)) W0.heap.size 3 [.int .i64 mv]:=(Below.heap_alloc _ _ _ (by simp)).trans (heap_alloc_new W0 _);have hx1:ABox ((W0.alloc (.cells #[.int .i64 mv] 3)).alloc (.cells #[.int .i64 0] 3)) (W0.heap.size+1) 3 [.int .i64 0]:=Qai (by simp);have hbb2:Below W0.heap.size W0 ((W0.alloc (.cells #[.int .i64 mv] 3)).alloc (.cells #[.int .i64 0] 3)):=((Below.refl W0.heap.size W0).alloc nL (.cells #[.int .i64 mv] 3)).alloc (by simp) (.cells #[.int .i64 0] 3);unfold Exit.then;go_wp2_with fail;go_meet;exact⟨(W0.heap.size+1),W0.heap.size,rfl,rfl,Lh ⟨by omega,by have:=hb0.out.size;omega,by have:=hb0.out.size;omega⟩,Lh hx1,Lh (by rw[HMV.out];exact hx0),Lh (hb0.out.trans (hbb2.mono hb0.out.size))⟩
     case rest=>
      obtain⟨Lb,Sb,rfl,rfl,HNS,HLB,HSB,HBW⟩:=hcut;have hba:Below wc.heap.size wc (wc.alloc (.cells #[Qd7 (w.heap.size+1) Lb Sb] 237)):=bR.alloc nL _;have HRB:Hid (ABox (wc.alloc (.cells #[Qd7 (w.heap.size+1) Lb Sb] 237)) wc.heap.size 237 [Qd7 (w.heap.size+1) Lb Sb]):=Lh (heap_alloc_new wc _);have HLB1:=Lh (HLB.out.to hba);have HSB1:=Lh (HSB.out.to hba);have HP1:Hid (PO w (wc.alloc (.cells #[Qd7 (w.heap.size+1) Lb Sb] 237)) w.heap.size (w.heap.size+1) Qb [Lb,Sb,wc.heap.size] A' c' bd hn ob (.slice Aq qu.length cq) qu u9 pgs):=
       Lh (HP.out.more (HBW.out.trans (hba.mono HBW.out.size)) (fun y hy=>by
        have h1:=HLB.out.lt
        have h2:=HSB.out.lt
        have h3:=HNS.out
        have h4:=HBW.out.size
        have hq:y=Lb∨y=Sb∨y=wc.heap.size:=(by simpa using hy)
        rw[World.size_alloc]
        rcases hq with h|h|h<;>omega) (by
        have h1:=HLB.out.lt
        have h2:=HSB.out.lt
        have h3:=HNS.out
        simp
        omega))
      unfold Qd7 at HRB HP1 HLB1 HSB1 hba;clear hba;go_wp2_with fail;obtain⟨Rb,hRb⟩:∃Rb,wc.heap.size=Rb:=⟨_,rfl⟩;rw[hRb] at HP1 HRB ⊢;generalize wc.alloc _=w3 at*;have HN3:Hid (Lb<w3.heap.size):=Lh HLB1.out.lt;clear HLB HSB HBW HP hbb hqb hhb hRb HNS;clear wm wc
      go_loopw [17] (fun _ wr=>∃(ln sh:Nat) (ob':Option Nat) (qv:Value) (qu':List LineP),Hid (PO w wr w.heap.size (w.heap.size+1) Qb [Lb,Sb,Rb] A' c' bd hn ob' qv qu' u9 pgs)∧Hid (ABox wr Lb 3 [.int .i64 (ln:Int)])∧Hid (ABox wr Sb 3 [.int .i64 (sh:Int)])∧ Hid (ABox wr Rb 237 [Qd7 (w.heap.size+1) Lb Sb])∧Hid (fillP notes hn (bd.drop ln) ln sh qu'=fillP notes hn bd 0 (min qu.length (hn-1)) qu)∧Hid (ln≤bd.length∧sh≤qu'.length∧qu'=qu++(bd.take ln).flatMap (Qad notes)∧(sh=0→qu'.length=0))) (fun _ wr=>bd.length-(intOf ((wr.cell? ⟨Lb,0,none⟩).getD undef)).toNat)
      (case atStart=>exact⟨0,min qu.length (hn-1),ob,_,qu,HP1,HLB1,HSB1,HRB,Lh rfl,Lh ⟨Nat.zero_le _,Nat.min_le_left _ _,by simp,by omega⟩⟩);case round=>
       clear HP1 HLB1 HSB1 HRB HN3 w3;obtain⟨ln,sh,ob1,qv1,qu1,HP,HL,HSn,HR,HFI,HI⟩:=hrel;obtain⟨Aq1,cq1,hqv,-,-⟩:=HP.out.q.len;rw[qM] at hqv;subst hqv
       have HQN:Hid (qu1.length+ln≤f∧f≤1048576):=Lh (by
        have h1:=HI.out.2.2.1
        have h2:=QbH notes bd ln HI.out.1
        have h3:=HF.out
        rw[h1,qA]
        omega)
       have HBN:Hid (bd.length≤1048576):=Lh (by
        have h2:=QbH notes bd bd.length nL
        have h3:=HF.out
        omega)
       obtain⟨fb,hfb⟩:∃fb,QcH hn ln sh qu1.length bd=fb:=⟨_,rfl⟩
       have HFC:Hid (Calls Tryz.prog 199 #[.pointer (some ⟨Lb,0,none⟩),.pointer (some ⟨w.heap.size,0,none⟩),.pointer (some ⟨Rb,0,none⟩),.pointer (some ⟨Sb,0,none⟩),.pointer (some ⟨Qb,0,none⟩)] wr fun e w'=>e=.returned (.bool fb)∧Below wr.heap.size wr w'):=Lh (by
        rw[←hfb]
        exact fits_any Lb w.heap.size Rb Sb Qb (w.heap.size+1) hn ln sh qu1.length cq1 c' Aq1 A' bd wr (by omega) HI.out.1 (by have:=HBN.out;omega) (by have:=HQN.out;have:=HI.out.2.1;omega) (by have:=HQN.out;omega) (HP.out.hb.cell 0 rfl) (HL.out.cell 0 rfl) (HSn.out.cell 0 rfl) (HP.out.bb.cell 0 rfl) (HP.out.qb.cell 0 rfl) (HR.out.cell 0 rfl) (HP.out.bs.mono fun i _ h=>h))
       have HFB:=Lh hfb;clear hfb;have HU9:Hid (vlen u9=pgs.length):=Lh (by obtain⟨A9,c9,e9,-⟩:=HP.out.pg.len;rw[e9];rfl);cases fb
       ·go_upto_region 20 with(first|(go_at_call 199;refine HFC.out.mono ?_;rintro e w4 ⟨rfl,hb4⟩)|fail);have HP4:=Lh (HP.out.to hb4);have HL4:=Lh (HL.out.to hb4);have HS4:=Lh (HSn.out.to hb4);have HDN:Hid (fillP notes hn bd 0 (min qu.length (hn-1)) qu=(ln,sh,qu1)):=Lh (by rw[←HFI.out,fillP_stop HFB.out])
        have HQS:Hid (Qb0 qu1):=Lh (by
         rw[HI.out.2.2.1]
         intro x hx
         rcases List.mem_append.1 hx with h|h
         ·exact HS.out.2.1 x h
         ·obtain⟨y,-,hy⟩:=List.mem_flatMap.1 h
          exact notes_small HSN.out y x hy)
        have hlnb:ln≤bd.length:=HI.out.1;have hshq:sh≤qu1.length:=HI.out.2.1;have hbc:bd.length≤c':=HP4.out.bs.1;have hqc:qu1.length≤cq1:=(by obtain⟨A9,c9,e9,h9,-⟩:=HP4.out.q.len;rw[qM] at e9;cases e9;have:=h9.1;rwa [qM] at this);clear hb4 HP HL HSn HFI HFB HFC HR;refine Qap [4,8,10] (fun i=>if i=4 then SP.up w4.heap.size 56 (bd.take ln) else if i=8 then SP.up w4.heap.size 56 (qu1.take sh) else if i=10 then SP.pg w4.heap.size (bd.take ln) (qu1.take sh) else SP.any) 11 (by kernel_rfl) (by kernel_rfl) ?_;intro T _ g hg hgm;have q0:∀d,(g d).cell? ⟨w.heap.size,0,none⟩=some (.slice A' bd.length c'):=fun d=>(HP4.out.bb.to (hg d)).cell 0 rfl
        have q1:∀d,(g d).cell? ⟨Lb,0,none⟩=some (.int .i64 (ln:Int)):=fun d=>(HL4.out.to (hg d)).cell 0 rfl
        have q2:∀d,(g d).cell? ⟨Qb,0,none⟩=some (.slice Aq1 qu1.length cq1):=fun d=>(HP4.out.qb.to (hg d)).cell 0 rfl
        have q3:∀d,(g d).cell? ⟨Sb,0,none⟩=some (.int .i64 (sh:Int)):=fun d=>(HS4.out.to (hg d)).cell 0 rfl
        (repeat(refine Qao (by rfl) fun Kq hq=>?_;go_big_quiet_step (fail);refine wpQuiet_nil (hq _ ?_);clear hq Kq));refine QaG (by rfl) (by rfl) (fun d hG K Q hK=>?_) (fun v4 d hG hp Kr hr=>?_)
        ·go_simp;go_at_call 200;refine(pclone_any A' c' ln (bd.take ln) (g d) (((HP4.out.bs.keep (Kept.all (hg d)) (hg d).size).mono (fun i _ h=>h)).take ln hlnb) (by rw[qK];omega) (by have:=HBN.out;omega) (fun x hx=>HS.out.1 x (List.mem_of_mem_take hx))).mono ?_;rintro e W1 ⟨v,rfl,ho1,hb1⟩;go_simp;exact hK _ _ hb1 (show OwnP W1 _ _ _ _ _ from ho1.up (hg d).size)
        obtain⟨A5,c5,rfl,-⟩:=(show OwnP (g d) w4.heap.size 56 v4 (bd.take ln) (fun b=>w4.heap.size≤b) from hp).len;rw[show(bd.take ln).length=ln by rw[qK];omega] at hr ⊢;(try clear hp);clear hG;go_frame;refine hr _ ?_;clear hr Kr;(repeat(refine Qao (by rfl) fun Kq hq=>?_;go_big_quiet_step (fail);refine wpQuiet_nil (hq _ ?_);clear hq Kq));refine QaG (by rfl) (by rfl) (fun d hG K Q hK=>?_) (fun v8 d hG hp Kr hr=>?_)
        ·go_simp;go_at_call 200;refine(pclone_any Aq1 cq1 sh (qu1.take sh) (g d) (by obtain⟨A9,c9,e9,h9,-⟩:=(HP4.out.to (hg d)).q.len;rw[qM] at e9;cases e9;exact(h9.unav.take sh hshq)) (by rw[qK];omega) (by have:=HQN.out;omega) (fun x hx=>HQS.out x (List.mem_of_mem_take hx))).mono ?_;rintro e W1 ⟨v,rfl,ho1,hb1⟩;go_simp;exact hK _ _ hb1 (show OwnP W1 _ _ _ _ _ from ho1.up (hg d).size)
        obtain⟨A6,c6,rfl,-⟩:=(show OwnP (g d) w4.heap.size 56 v8 (qu1.take sh) (fun b=>w4.heap.size≤b) from hp).len;rw[show(qu1.take sh).length=sh by rw[qK];omega] at hr ⊢;(try clear hp);clear hG;go_frame;refine hr _ ?_;clear hr Kr;(repeat(refine Qao (by rfl) fun Kq hq=>?_;go_big_quiet_step (fail);refine wpQuiet_nil (hq _ ?_);clear hq Kq));refine QaG (by rfl) (by rfl) (fun d hG K Q hK=>?_) (fun v10 d hG hp Kr hr=>?_)
        ·have h5:=(show OwnP (g d) w4.heap.size 56 (.slice A5 ln c5) (bd.take ln) (fun b=>w4.heap.size≤b) from hG 4 (by kernel_rfl)).rep (S:=fun b=>w4.heap.size≤b) (by rw[qK];have:=HBN.out;omega) (fun i h _=>h);have h6:=(show OwnP (g d) w4.heap.size 56 (.slice A6 sh c6) (qu1.take sh) (fun b=>w4.heap.size≤b) from hG 8 (by kernel_rfl)).rep (S:=fun b=>w4.heap.size≤b) (by rw[qK];have:=HQN.out;omega) (fun i h _=>h);have H5:=Lh h5;have H6:=Lh h6;clear h5 h6;go_simp;exact hK _ _ (bR.alloc nL _) ⟨(g d).heap.size,_,_,rfl,(hg d).size,by simp,heap_alloc_new _ _,Rep.keep H5.out (Kept.all (bR.alloc nL _)),Rep.keep H6.out (Kept.all (bR.alloc nL _))⟩
        obtain⟨b10,va,vb,rfl,hq1,hq2,hq3,hq4,hq5⟩:=(show ∃b va vb,v10=.slice (some ⟨b,0,none⟩) 1 1∧_ from hp);clear hq1 hq2 hq3 hq4 hq5 va vb;(try clear hp);clear hG;go_frame;refine hr _ ?_;clear hr Kr;refine QbZ 2 (by rfl) (by rfl) (fun d hG=>?_);obtain⟨b9,va,vb,e9,hp1,hp2,hp3,hp4,hp5⟩:=(show ∃b va vb,Value.slice (some ⟨b10,0,none⟩) 1 1=.slice (some ⟨b,0,none⟩) 1 1∧w4.heap.size≤b∧b<(g d).heap.size∧(g d).heap[b]? =some (.cells #[.int .i64 0,.int .i64 0,.int .i64 0,.int .i64 0,va,vb] 43 (0,0))∧Rep.R (g d) (fun i=>w4.heap.size≤i) [va] (bd.take ln)∧Rep.R (g d) (fun i=>w4.heap.size≤i) [vb] (qu1.take sh) from hG 10);cases e9;have HPd:=Lh (HP4.out.to (hg d));have HLd:=Lh (HL4.out.to (hg d));have HSd:=Lh (HS4.out.to (hg d))
        have HFAR:Hid (∀i,w4.heap.size≤i→i<(g d).heap.size→some i≠u9.ownBlock∧PBk w.heap.size (w.heap.size::(w.heap.size+1)::Qb::[Lb,Sb,Rb]) ob1 i):=Lh (fun i hi _=>by
         refine⟨fun e=>?_,by have:=HP4.out.bl.size;omega,fun hm=>?_,fun e=>?_⟩
         ·have:=(HP4.out.pg.lt i e.symm).2;omega
         ·have:=(HP4.out.ge i hm).2.1;omega
         ·have:=(HP4.out.q.lt i e.symm).2;omega)
        have HPR:Hid (Rep.R (g d) (fun b=>some b≠u9.ownBlock) [.int .i64 0,.int .i64 0,.int .i64 0,.int .i64 0,va,vb] (⟨⟨0,0,0,0,bd.take ln,qu1.take sh⟩⟩:Av PageP (PBk w.heap.size (w.heap.size::(w.heap.size+1)::Qb::[Lb,Sb,Rb]) ob1))):=
         Lh ⟨va,vb,rfl,Rep.mono hp4 HFAR.out,Rep.mono hp5 HFAR.out⟩
        have HNN:Hid (pgs.length≤1048576):=Lh (by
         have h1:=congrArg List.length HT.out
         rw[qA] at h1
         have h2:=Qcb notes hn (Qaq body notes) body []
         omega)
        clear q0 q1 q2 q3 hG hg hgm HFAR hp1 hp2 hp4 hp5 HP4 HL4 HS4;generalize g d=wx at*;clear g;refine QaN (i:=11) (oi:=_) rfl (by kernel_rfl) (by rfl) (fun K hK=>?_);refine Qb2 wx (α:=Av PageP (PBk w.heap.size (w.heap.size::(w.heap.size+1)::Qb::[Lb,Sb,Rb]) ob1)) (.tmp 77) (.tmp 87) 32 rfl w.heap.size 43 (.agg #[.int .i64 0,.int .i64 0,.int .i64 0,.int .i64 0,.slice none 0 0,.slice none 0 0]) 80 Tryz.underlying32 page_info rfl (show 0<6 by decide) u9 (pgs.map Av.mk) rfl HPd.out.pg.own b10 _ _ (0,0) _ rfl hp3 HPR.out (by rw[qM];have:=HNN.out;omega) (by rw[qM];have:=HNN.out;omega) HPd.out.bl.size _ rfl ?_;rw[qM];intro g7 cap7 w7 ho7 hg7 hat7 hlt7;refine hK _ _ ?_;clear hK K;(try simp only[Act.put,sA0]);have HP7:=Lh (HPd.out.page hg7 ho7 (fun k hk=>by cases hk;exact hat7));have HL7:Hid (ABox w7 Lb 3 [.int .i64 (ln:Int)]):=Lh ((hg7.block _ HLd.out.lt (fun e=>(HPd.out.pg.at_ Lb e.symm).2.1 (by simp))).trans HLd.out);have HS7:Hid (ABox w7 Sb 3 [.int .i64 (sh:Int)]):=Lh ((hg7.block _ HSd.out.lt (fun e=>(HPd.out.pg.at_ Sb e.symm).2.1 (by simp))).trans HSd.out);clear ho7 hg7 hat7 hlt7 HPd HLd HSd hp3 HPR;refine QaN (i:=12) (oi:=_) rfl (by kernel_rfl) (by rfl) (fun K hK=>?_);go_simp;refine hK _ _ ?_;clear hK K;(try go_frame);refine wpAny_done (by kernel_rfl) ?_ _;unfold Exit.then;go_upto_region 21 with(fail);refine Qaj (fun w'=>w'.cell? ⟨Lb,0,none⟩=some (.int .i64 (ln:Int))∧w'.cell? ⟨Qb,0,none⟩=some (.slice Aq1 qu1.length cq1)∧w'.cell? ⟨Sb,0,none⟩=some (.int .i64 (sh:Int))) (fun i=>decide (i<7)) (by kernel_rfl) ?_;have hbz:Below w7.heap.size w7 w7.drew:=bR.drew;have HP8:=Lh (HP7.out.to hbz);have HL8:=Lh (HL7.out.to hbz);have HS8:=Lh (HS7.out.to hbz);clear hbz HP7 HL7 HS7;generalize w7.drew=W0 at*;have hS0:W0.cell? ⟨Lb,0,none⟩=some (.int .i64 (ln:Int))∧W0.cell? ⟨Qb,0,none⟩=some (.slice Aq1 qu1.length cq1)∧W0.cell? ⟨Sb,0,none⟩=some (.int .i64 (sh:Int)):=⟨HL8.out.cell 0 rfl,HP8.out.qb.cell 0 rfl,HS8.out.cell 0 rfl⟩
        have HNB:Hid (Lb≠w.heap.size∧Qb≠w.heap.size∧Sb≠w.heap.size):=Lh (by
         have h:=HP8.out.nd
         simp at h
         exact⟨fun e=>h.1.2.1 e.symm,fun e=>h.1.1 e.symm,fun e=>h.1.2.2.1 e.symm⟩)
        have HSQ:Hid (∀u,(W0.setCell ⟨w.heap.size,0,none⟩ u).cell? ⟨Lb,0,none⟩=some (.int .i64 (ln:Int))∧(W0.setCell ⟨w.heap.size,0,none⟩ u).cell? ⟨Qb,0,none⟩=some (.slice Aq1 qu1.length cq1)∧(W0.setCell ⟨w.heap.size,0,none⟩ u).cell? ⟨Sb,0,none⟩=some (.int .i64 (sh:Int))):=Lh (fun u=>
         ⟨(HL8.out.other HNB.out.1 0 u).cell 0 rfl,(HP8.out.qb.other HNB.out.2.1 0 u).cell 0 rfl,(HS8.out.other HNB.out.2.2 0 u).cell 0 rfl⟩)
        have HPS:=Lh (pages_step h4 HF.out.1 HNE1.out HDN.out)
        have HLEN:Hid (vlen u9=pgs.length∧pgs.length+1≤N):=Lh ⟨HU9.out,by
         have h1:=congrArg List.length HT.out
         rw[HPS.out.2,HNE.out,qA,qC] at h1
         omega⟩
        have HT2:Hid ((pgs++[(⟨0,0,0,0,bd.take ln,qu1.take sh⟩:PageP)])++setPages notes hn (f-1) (bd.drop ln) (qu1.drop sh)=setPages notes hn (Qaq body notes) body []):=Lh (by
         rw[←HT.out,HPS.out.2,List.append_assoc];rfl)
        have HS2:Hid (Qb0 (bd.drop ln)∧Qb0 (qu1.drop sh)∧Refs (bd.drop ln) notes):=Lh ⟨fun x hx=>HS.out.1 x (List.mem_of_mem_drop hx),fun x hx=>HQS.out x (List.mem_of_mem_drop hx),fun x hx=>HS.out.2.2 x (List.mem_of_mem_drop hx)⟩;have HF2:Hid (Qaq (bd.drop ln) notes+(qu1.drop sh).length≤f-1∧f-1≤1048576):=Lh ⟨HPS.out.1,by have:=HF.out.2;omega⟩;refine tE 1 ⟨some 90,Op.load 3 (.tmp 11),3,_,_,_⟩ ?_ rfl ?zq10 (hS0) ?zq11;(case zq10=>intro wS hSw;(have hq:=hSw.1);clear hSw;go_simp;(try with_reducible rfl));(all_goals try go_frame);refine tE 3 ⟨some 92,Op.load 41 (.tmp 10),41,_,_,_⟩ ?_ rfl ?zq12 (hS0) ?zq13;(case zq12=>intro wS hSw;(have hq:=hSw.2.1);clear hSw;go_simp;(try with_reducible rfl));(all_goals try go_frame);refine tE 4 ⟨some 93,Op.load 3 (.tmp 12),3,_,_,_⟩ ?_ rfl ?zq14 (hS0) ?zq15;(case zq14=>intro wS hSw;(have hq:=hSw.2.2);clear hSw;go_simp;(try with_reducible rfl));(all_goals try go_frame);refine tE 5 ⟨some 94,Op.slice 41 (.tmp 92) (some (.tmp 93)) none none,41,_,_,_⟩ ?_ rfl ?zq16 (hS0) ?zq17;(case zq16=>intro _ s;clear s;go_simp;(try with_reducible rfl));(all_goals try go_frame);refine tD 0 ⟨some 89,Op.load 41 (.tmp 3),41,_,_,_⟩ rfl fun K hK=>?_
        have hq0:=HP8.out.bb.cell 0 rfl;go_simp;refine hK _ _ (fun _=>?_) ?_
        ·exact hS0
        clear hK K;(try go_frame);refine tE 2 ⟨some 91,Op.slice 41 (.tmp 89) (some (.tmp 90)) none none,41,_,_,_⟩ ?_ rfl ?zq18 (hS0) ?zq19;(case zq18=>intro _ s;clear s;go_simp;(try with_reducible rfl));(all_goals try go_frame);refine tD 6 ⟨none,Op.store 41 (.tmp 3) (.tmp 91),0,_,_,_⟩ rfl fun K hK=>?_
        have hq6:=HP8.out.bb.cell 0 rfl;have hf6:=HP8.out.bb.fz 0;go_simp;clear hq6 hf6;refine hK _ _ (fun _=>?_) ?_
        ·exact(HSQ.out _)
        clear hK K;(try simp only[Act.put]);refine tD 7 ⟨none,Op.store 41 (.tmp 10) (.tmp 94),0,_,_,_⟩ rfl fun K hK=>?_
        have hq7:=(HP8.out.qb.other HNB.out.2.1 0 (.slice (if c'=ln then A' else Option.map (fun x=>x.add (ln*4)) A') (bd.length-ln) (c'-ln))).cell 0 rfl;have hf7:=(HP8.out.qb.other HNB.out.2.1 0 (.slice (if c'=ln then A' else Option.map (fun x=>x.add (ln*4)) A') (bd.length-ln) (c'-ln))).fz 0;go_simp;clear hq7 hf7;refine hK _ _ (fun h=>absurd h (by decide)) ?_;clear hK K;(try simp only[Act.put]);refine Qae (by kernel_rfl) ?_ _;unfold Exit.inBlock
        have HP9:Hid (∃ob9,PO w ((W0.setCell ⟨w.heap.size,0,none⟩ (.slice (if c'=ln then A' else Option.map (fun x=>x.add (ln*4)) A') (bd.length-ln) (c'-ln))).setCell ⟨Qb,0,none⟩ (.slice (if cq1=sh then Aq1 else Option.map (fun x=>x.add (sh*4)) Aq1) (qu1.length-sh) (cq1-sh))) w.heap.size (w.heap.size+1) Qb [] (if c'=ln then A' else Option.map (fun x=>x.add (ln*4)) A') (c'-ln) (bd.drop ln) hn ob9 (.slice (if cq1=sh then Aq1 else Option.map (fun x=>x.add (sh*4)) Aq1) (qu1.length-sh) (cq1-sh)) (qu1.drop sh) (.slice (some ⟨g7,0,none⟩) (pgs.length+1) cap7) (pgs++[(⟨0,0,0,0,bd.take ln,qu1.take sh⟩:PageP)])):=Lh (by
         obtain⟨ob9,ho9,hq9⟩:=HP8.out.q.cut (k:=sh) (by rw[qM];exact hshq)
         rw[←List.map_drop] at hq9
         exact⟨ob9,(HP8.out.cut (HP8.out.bs.drop ln hlnb) (by rw[List.length_drop]) hq9 ho9).less⟩)
        clear HP8 HL8 HS8 hS0 HNB HSQ;go_wp2_with fail;go_roundw;case rel=>
         obtain⟨ob9,hp9⟩:=HP9.out;exact⟨_,_,_,ob9,_,_,_,f-1,Lh hp9,HF2,HT2,HS2⟩
        case measure=>
         have h:=HLEN.out;rw[h.1];show N-(pgs.length+1)<N-pgs.length;omega
       ·obtain⟨wo,rfl⟩:∃wo:World,wo=wr:=⟨_,rfl⟩;obtain⟨hlt,hfit⟩:=fits_get HFB.out;have HFIT:=Lh hfit;obtain⟨b,o,Ag,cg,An,cn,hA,hbo,hbl,-,-,-,e3,-,hnS⟩:=Qdr HP.out.bs hlt;subst hA;have HNS:=Lh hnS;have HRX:=Lh (HS.out.2.2 bd[ln] (List.getElem_mem hlt));have hlc:bd.length≤c':=HP.out.bs.1;have hlI:(ln:Int)<(bd.length:Int):=(by omega);have hl0:(0:Int)≤(ln:Int):=(by omega);have HGO:Hid (fillP notes hn (bd.drop ln) ln sh qu1=fillP notes hn (bd.drop (ln+1)) (ln+1) (Qb5 hn ln sh (qu1++Qad notes bd[ln]).length) (qu1++Qad notes bd[ln])):=Lh (fillP_go hlt hfit);have HTA:Hid ((bd.take (ln+1)).flatMap (Qad notes)=(bd.take ln).flatMap (Qad notes)++Qad notes bd[ln]):=Lh (take_all hlt);have HB1:Hid (Below w.heap.size w wo):=Lh HP.out.bl;have HMO:Hid ((intOf ((wo.cell? ⟨Lb,0,none⟩).getD undef)).toNat=ln):=Lh (by rw[HL.out.cell 0 rfl];simp[intOf])
        have HLX:Hid ((Qad notes bd[ln]).length≤1048576):=Lh (by
         have h1:=QbH notes bd bd.length nL
         have h2:=HF.out
         have h3:(Qad notes bd[ln]).length≤((bd.take bd.length).flatMap (Qad notes)).length:=by
          rw[List.take_length]
          exact(List.sublist_flatten_of_mem (List.mem_map.2 ⟨bd[ln],List.getElem_mem hlt,rfl⟩)).length_le
         omega)
        obtain⟨x,hx⟩:∃x,bd[ln]=x:=⟨_,rfl⟩;have HXM:Hid (bd[ln]? =some x):=Lh (by rw[qG hlt,hx]);rw[hx] at HFIT HNS HRX HGO HTA HLX e3;clear hfit hnS hx;go_upto_region 11 with(first|(go_at_call 199;refine HFC.out.mono ?_;rintro e w4 ⟨rfl,hb4⟩)|fail);have HP4:=Lh (HP.out.to hb4);have HL4:=Lh (HL.out.to hb4);have HS4:=Lh (HSn.out.to hb4);have HR4:=Lh (HR.out.to hb4);have hq0:=HP4.out.bb.cell 0 rfl;have hq1:=HL4.out.cell 0 rfl;have hq2:w4.cell? ⟨b,o+ln*4+3,none⟩=some (.slice An x.notes.length cn):=(hb4.cell (p:=⟨b,_,none⟩) hbl).trans e3;have hnl9:x.notes.length≤9223372036854775807:=(by have:=HNS.out.1;have:=HNS.out.2.1;unfold maxLen at this;omega);clear hb4 e3 HP HL HSn HR HFC;go_wp2_with fail;clear hq0 hq1 hq2
        go_loopw [48] (fun v48 wr=>∃(j:Nat) (ob2:Option Nat) (qv:Value) (qu2:List LineP),v48=.int .i64 (j:Int)∧j≤x.notes.length∧Hid (PO w wr w.heap.size (w.heap.size+1) Qb [Lb,Sb,Rb] (some ⟨b,o,none⟩) c' bd hn ob2 qv qu2 u9 pgs)∧Hid (ABox wr Lb 3 [.int .i64 (ln:Int)])∧Hid (ABox wr Sb 3 [.int .i64 (sh:Int)])∧ Hid (ABox wr Rb 237 [Qd7 (w.heap.size+1) Lb Sb])∧Hid (qu2=qu1++Qb6 notes x j)) (fun v48 _=>x.notes.length-(intOf v48).toNat)
        (case atStart=>exact⟨0,ob1,_,qu1,rfl,Nat.zero_le _,HP4,HL4,HS4,HR4,Lh (by simp[Qb6])⟩);case round=>
         clear HP4 HL4 HS4 HR4;obtain⟨j,ob2,qv2,qu2,rfl,hj,HP,HL,HSn,HR,HQ2⟩:=hrel;obtain⟨Aq2,cq2,hqv,-,-⟩:=HP.out.q.len;rw[qM] at hqv;subst hqv;by_cases hjl:j<x.notes.length
         ·have hjI:(j:Int)<(x.notes.length:Int):=by omega
          have hj0:(0:Int)≤(j:Int):=(by omega);have HNSr:Hid (Sl wr (fun b=>b<w.heap.size) An cn x.notes):=Lh (HNS.out.old (kept_two HB1.out HP.out.bl) HP.out.bl.size);obtain⟨b1,o1,hA1,-,-,hok,ce⟩:=Qcf HNSr.out hjl;obtain⟨hr0,hr1⟩:=HRX.out _ (List.getElem_mem hjl);obtain⟨k,hk⟩:∃k:Nat,x.notes[j]=(k:Int):=⟨x.notes[j].toNat,by omega⟩;have HST:Hid (Qb6 notes x (j+1)=Qb6 notes x j++notes[x.notes[j].toNat]'(by omega)):=Lh (noteTo_step hjl (by omega));have hkn:k<notes.length:=(by omega);have hkI:(k:Int)<(notes.length:Int):=(by omega);have hk0:(0:Int)≤(k:Int):=(by omega);have HBr:Hid (Sl wr (fun b=>b<w.heap.size) B d notes):=Lh (HBn.out.keep (Kept.below HP.out.bl (fun i hi=>hi)) HP.out.bl.size);obtain⟨bn,on,Ap,cp,hB,hbn,hbnl,cn1,hyS⟩:=Qb8 HBr.out hkn;have hln2:notes.length≤d:=HBr.out.1;have HYS:=Lh hyS;have e1:x.notes[j].toNat=k:=(by omega);simp only[e1] at HST;rw[hk] at ce;have HYL:Hid (∀z,z∈notes[k]→True):=Lh (fun _ _=>trivial)
          have HNL2:Hid (qu1.length+(Qb6 notes x (j+1)).length≤1048576+1048576):=Lh (by
           have h1:=noteTo_le notes x (j+1)
           have h2:=HQN.out
           have h3:=HLX.out
           omega)
          obtain⟨y,hy⟩:∃y,notes[k]=y:=⟨_,rfl⟩;rw[hy] at HST HYS cn1;clear HYL hy e1 hk hok hr0 hr1 hyS;subst hA1;subst hB;have hqb:=HP.out.qb.cell 0 rfl;have hcn9:x.notes.length≤cn:=HNSr.out.1;go_upto_region 14 with(fail);refine Qaj (fun w'=>w'.cell? ⟨Qb,0,none⟩=some (.slice Aq2 qu2.length cq2)∧w'.cell? ⟨bn,on+k,none⟩=some (.slice Ap y.length cp)) (fun i=>decide (i<5)) (by kernel_rfl) ?_;have hbz:Below wr.heap.size wr wr.drew:=bR.drew;have hS0:wr.drew.cell? ⟨Qb,0,none⟩=some (.slice Aq2 qu2.length cq2)∧wr.drew.cell? ⟨bn,on+k,none⟩=some (.slice Ap y.length cp):=⟨hqb,cn1⟩;have HPz:=Lh (HP.out.to hbz);have HLz:=Lh (HL.out.to hbz);have HSz:=Lh (HSn.out.to hbz);have HRz:=Lh (HR.out.to hbz);have HYz:Hid (Sl wr.drew (fun b=>b<w.heap.size) Ap cp y):=Lh (HYS.out.keep (Kept.all hbz) hbz.size);clear hbz HP HL HSn HR HYS ce cn1 hqb HNSr HBr;generalize wr.drew=W0 at*
          have HNL3:Hid (qu2.length+y.length≤1048576+1048576):=Lh (by
           have h1:=HNL2.out
           rw[HST.out,qA] at h1
           rw[HQ2.out,qA]
           omega)
          refine tE 0 ⟨some 52,Op.load 41 (.tmp 10),41,_,_,_⟩ ?_ rfl ?zq20 (hS0) ?zq21;(case zq20=>intro wS hSw;(have hq:=hSw.1);clear hSw;go_simp;(try with_reducible rfl));(all_goals try go_frame);refine tE 1 ⟨some 53,Op.move (.tmp 1),81,_,_,_⟩ ?_ rfl ?zq22 (hS0) ?zq23;(case zq22=>intro _ s;clear s;go_simp;(try with_reducible rfl));(all_goals try go_frame);refine tE 2 ⟨some 54,Op.move (.tmp 16),3,_,_,_⟩ ?_ rfl ?zq24 (hS0) ?zq25;(case zq24=>intro _ s;clear s;go_simp;(try with_reducible rfl));(all_goals try go_frame);refine tE 3 ⟨some 55,Op.indexAddr 81 (.tmp 53) (.tmp 54),0,_,_,_⟩ ?_ rfl ?zq26 (hS0) ?zq27;(case zq26=>intro _ s;clear s;go_simp;(try with_reducible rfl));(all_goals try go_frame);refine tE 4 ⟨some 56,Op.load 41 (.tmp 55),41,_,_,_⟩ ?_ rfl ?zq28 (hS0) ?zq29;(case zq28=>intro wS hSw;(have hq:=hSw.2);clear hSw;go_simp;(try with_reducible rfl));(all_goals try go_frame);refine tD 5 ⟨some 57,Op.call {callee:=Callee.builtin Builtin.append,args:=#[Operand.tmp 52,Operand.tmp 56],argTypes:=#[41,41]},41,_,_,_⟩ rfl fun K hK=>?_
          refine wp_que (α:=OldL w.heap.size) (.tmp 52) (.tmp 56) 41 rfl w.heap.size 56 (.agg #[.int .i64 0,.int .i64 0,.slice none 0 0,.slice none 0 0]) 64 Tryz.underlying41 Qda rfl (show 0<4 by decide) ob2 _ (qu2.map Av.mk) rfl HPz.out.q Ap cp y.length (y.map Av.mk) rfl (by rw[qM]) (fun b=>b<w.heap.size) (HYz.out.av (fun i h _=>h)) (fun i hi _ e=>by have:=(HPz.out.q.lt i e.symm).1;omega) (fun i hi=>Nat.lt_of_lt_of_le hi HPz.out.bl.size) (by rw[qM];have:=HNL3.out;omega) (by rw[qM];have:=HNL3.out;omega) HPz.out.bl.size ?_;intro v5 w5 ob5 hq5 hg5 hob5;rw[←List.map_append] at hq5;obtain⟨A5,c5,rfl,-,-⟩:=hq5.len;rw[qM] at hq5 ⊢;have HQ5:=Lh hq5;have HG5:=Lh hg5;have HO5:=Lh hob5;clear hq5 hg5 hob5;refine hK _ _ (fun h=>absurd h (by decide)) ?_;clear hK K;(try go_frame);refine tD 6 ⟨none,Op.store 41 (.tmp 10) (.tmp 57),0,_,_,_⟩ rfl fun K hK=>?_
          have hqb5:ABox w5 Qb 41 [.slice Aq2 qu2.length cq2]:=(HG5.out.block Qb (HPz.out.ge Qb (by simp)).2.1 (HPz.out.ge Qb (by simp)).2.2).trans HPz.out.qb;have hc6:=hqb5.cell 0 rfl;have hf6:=hqb5.fz 0;go_simp;clear hc6 hf6 hqb5;refine hK _ _ (fun h=>absurd h (by decide)) ?_;clear hK K;(try simp only[Act.put]);refine Qae (by kernel_rfl) ?_ _;have HP5:=Lh (HPz.out.que HG5.out HQ5.out HO5.out)
          have hbx:∀{z t cs},z∈[Lb,Sb,Rb]→ABox W0 z t cs→ABox (w5.setCell ⟨Qb,0,none⟩ (.slice A5 (qu2++y).length c5)) z t cs:=fun {z t cs} hz hb=>by
           have hz2:z∈w.heap.size::(w.heap.size+1)::Qb::[Lb,Sb,Rb]:=(by simp only[List.mem_cons] at hz ⊢;rcases hz with h|h|h|h<;>simp_all);have hne:z≠Qb:=by
            have h:=HPz.out.nd;simp only[List.nodup_cons,List.mem_cons,not_or] at h;simp only[List.mem_cons,List.not_mem_nil,or_false] at hz;rcases hz with rfl|rfl|rfl
            ·exact fun e=>h.2.2.1.1 e.symm
            ·exact fun e=>h.2.2.1.2.1 e.symm
            ·exact fun e=>h.2.2.1.2.2.1 e.symm
           exact(show ABox w5 z t cs from(HG5.out.block z (HPz.out.ge z hz2).2.1 (HPz.out.ge z hz2).2.2).trans hb).other hne 0 _
          have HL5:=Lh (hbx (by simp) HLz.out);have HS5:=Lh (hbx (by simp) HSz.out);have HR5:=Lh (hbx (by simp) HRz.out);clear hbx HPz HLz HSz HRz HQ5 HG5 HO5 HYz hS0;simp only[qA] at HP5 HL5 HS5 HR5;unfold Exit.then;go_wp2_with fail;go_roundw;(case rel=>exact⟨j+1,ob5,_,qu2++y,by go_num,by omega,HP5,HL5,HS5,HR5,Lh (by rw[HQ2.out,HST.out,List.append_assoc])⟩);case measure=>(first|(simp[intOf];done)|(simp[intOf];omega))
         ·have hjI:¬(j:Int)<(x.notes.length:Int):=by omega
          have HQA:Hid (qu2=qu1++Qad notes x):=Lh (by rw[HQ2.out,show j=x.notes.length by omega,noteTo_all])
          have HLE:Hid (qu2.length≤1048576+1048576):=Lh (by
           rw[HQA.out,qA]
           have h2:=HQN.out
           have h3:=HLX.out
           omega)
          have hc1:=HL.out.cell 0 rfl;have hf1:=HL.out.fz 0;have hlnI:(ln:Int)≤1048576:=(by have:=HBN.out;omega);have hln0:(0:Int)≤(ln:Int):=(by omega);have hw0:IntKind.i64.wrap ((ln:Int)+1)=(ln:Int)+1:=(by rw[IntWalk.i64_in _ (by omega)]);go_upto_region 17 with(fail);have HP6:=Lh (HP.out.set (x:=Lb) (by simp) (.int .i64 ((ln:Int)+1)));have HL6:Hid (ABox (wr.setCell ⟨Lb,0,none⟩ (.int .i64 ((ln:Int)+1))) Lb 3 [.int .i64 ((ln+1:Nat):Int)]):=Lh (by simpa using HL.out.set 0 (.int .i64 ((ln:Int)+1)))
          have HNB:Hid (Sb≠Lb∧Rb≠Lb∧Rb≠Sb):=Lh (by
           have h:=HP.out.nd
           simp at h
           exact⟨fun e=>h.2.2.2.1.1 e.symm,fun e=>h.2.2.2.1.2 e.symm,fun e=>h.2.2.2.2 e.symm⟩)
          have HS6:=Lh (HSn.out.other HNB.out.1 0 (.int .i64 ((ln:Int)+1)));have HR6:=Lh (HR.out.other HNB.out.2.1 0 (.int .i64 ((ln:Int)+1)));clear hc1 hf1 hw0 HP HL HSn HR;generalize wr.setCell ⟨Lb,0,none⟩ (.int .i64 ((ln:Int)+1))=w6 at*;have hq1:=HP6.out.qb.cell 0 rfl;have hq2:=HS6.out.cell 0 rfl;have hshI:(sh:Int)≤1048576:=(by have:=HQN.out;have:=HI.out.2.1;omega);have hqI:(qu2.length:Int)≤2097152:=(by have:=HLE.out;omega);have HTK:Hid (qu2=qu++(bd.take (ln+1)).flatMap (Qad notes)):=Lh (by rw[HTA.out,HQA.out,HI.out.2.2.1,List.append_assoc]);have HFL:Hid (fillP notes hn (bd.drop (ln+1)) (ln+1) (Qb5 hn ln sh qu2.length) qu2=fillP notes hn bd 0 (min qu.length (hn-1)) qu):=Lh (by rw[←HFI.out,HGO.out,←HQA.out]);have HSH:Hid (sh≤qu2.length):=Lh (by rw[HQA.out,qA];have:=HI.out.2.1;omega);by_cases hmo:sh<qu2.length
          ·have hmI:(0:Int)<(qu2.length:Int)-(sh:Int):=by omega
           go_upto_region 19 with(fail);obtain⟨r,hr⟩:∃r,QcE hn (ln+1) sh=r:=⟨_,rfl⟩;have HSTP:=Lh (shown_step HFIT.out HI.out.2.2.2 (q2:=qu2.length) (fun h=>by rw[HQA.out,qA];unfold Qad;rw[h];rfl) hmo);obtain⟨ns,hns⟩:∃ns,Qb5 hn ln sh qu2.length=ns:=⟨_,rfl⟩;rw[hr,hns] at HSTP;rw[hns] at HFL;have hrb: -4194304≤r∧r≤4194304:=(by rw[←hr];unfold QcE;omega);have hw1:IntKind.i64.wrap (r-1)=r-1:=(by rw[IntWalk.i64_in _ (by omega)]);have hw2:IntKind.i64.wrap (r-1+min (sh:Int) 1)=r-1+min (sh:Int) 1:=(by rw[IntWalk.i64_in _ (by omega)]);have hnsb:ns≤qu2.length:=(by rw[←hns];exact(Qer HSH.out).2);have hw3:IntKind.i64.wrap ((sh:Int)+min ((qu2.length:Int)-(sh:Int)) (r-1+min (sh:Int) 1))=(ns:Int):=by
            have h:=HSTP.out.2.1;rw[show((min sh 1:Nat):Int)=min (sh:Int) 1 by omega] at h;rw[h,IntWalk.i64_in _ (by omega)]
           have HNB2:Hid (ns≤qu2.length∧1≤ns):=Lh ⟨hnsb,HSTP.out.2.2⟩
           have HRM:Hid (∀W,Below w6.heap.size w6 W→Calls Tryz.prog 198 #[.pointer (some ⟨w.heap.size+1,0,none⟩),.pointer (some ⟨Lb,0,none⟩),.pointer (some ⟨Sb,0,none⟩)] W fun e w'=>e=.returned (.int .i64 r)∧W=w'):=Lh (fun W hW=>by
            rw[←hr]
            exact room_any (w.heap.size+1) Lb Sb hn (ln+1) sh W (by omega) (by omega) (by omega) ((HP6.out.hb.to hW).cell 0 rfl) ((HL6.out.to hW).cell 0 rfl) ((HS6.out.to hW).cell 0 rfl))
           clear hr hns hnsb HSTP hrb;refine Qap [3] (fun i=>if i=3 then SP.val (.int .i64 r) else SP.any) 10 (by kernel_rfl) (by kernel_rfl) ?_;intro T _ g hg hgm;have q3:∀d,(g d).cell? ⟨Sb,0,none⟩=some (.int .i64 (sh:Int)):=fun d=>(HS6.out.to (hg d)).cell 0 rfl
           have q4:∀d,(g d).cell? ⟨Rb,0,none⟩=some (Qd7 (w.heap.size+1) Lb Sb):=fun d=>(HR6.out.to (hg d)).cell 0 rfl
           have HG5:=Lh hgm;unfold Qd7 at q4;(repeat(refine Qao (by rfl) fun Kq hq=>?_;go_big_quiet_step (fail);refine wpQuiet_nil (hq _ ?_);clear hq Kq));refine QaG (by rfl) (by rfl) (fun d hG K Q hK=>?_) (fun v3 d hG hp Kr hr=>?_)
           ·go_simp;go_at_call 198;refine(HRM.out _ (hg d)).mono ?_;rintro e W1 ⟨rfl,rfl⟩;go_simp;exact hK _ _ bR (rfl)
           obtain rfl:v3=.int .i64 r:=hp;(try clear hp);clear hG;go_frame;refine hr _ ?_;clear hr Kr;(repeat(refine Qao (by rfl) fun Kq hq=>?_;go_big_quiet_step (fail);refine wpQuiet_nil (hq _ ?_);clear hq Kq));refine QbZ 1 (by rfl) (by rfl) (fun d hG=>?_);have HPd:=Lh (HP6.out.to (hg d));have HLd:=Lh (HL6.out.to (hg d));have HSd:=Lh (HS6.out.to (hg d));have HRd:=Lh (HR6.out.to (hg d));clear q3 q4 hG hg hgm HG5 HP6 HL6 HS6 HR6 HRM hq1 hq2;generalize g d=wx at*;clear g;have hc3:=HSd.out.cell 0 rfl;have hf3:=HSd.out.fz 0;refine QaN (i:=10) (oi:=_) rfl (by kernel_rfl) (by rfl) (fun K hK=>?_);go_simp;refine hK _ _ ?_;clear hK K;(try go_frame);refine wpAny_done (by kernel_rfl) ?_ _;have HP8:=Lh (HPd.out.set (x:=Sb) (by simp) (.int .i64 (ns:Int)));have HL8:=Lh (HLd.out.other (Ne.symm HNB.out.1) 0 (.int .i64 (ns:Int)));have HS8:Hid (ABox (wx.setCell ⟨Sb,0,none⟩ (.int .i64 (ns:Int))) Sb 3 [.int .i64 (ns:Int)]):=Lh (by simpa using HSd.out.set 0 (.int .i64 (ns:Int)));have HR8:=Lh (HRd.out.other HNB.out.2.2 0 (.int .i64 (ns:Int)));clear hc3 hf3 HPd HLd HSd HRd;generalize wx.setCell ⟨Sb,0,none⟩ (.int .i64 (ns:Int))=w8 at*;have HL9:Hid ((intOf ((w8.cell? ⟨Lb,0,none⟩).getD undef)).toNat=ln+1):=Lh (by rw[HL8.out.cell 0 rfl];show((ln+1:Nat):Int).toNat=ln+1;omega);unfold Exit.inBlock;go_wp2_with fail;go_roundw;(case rel=>exact⟨ln+1,ns,ob2,_,qu2,HP8,HL8,HS8,HR8,HFL,Lh ⟨by omega,HNB2.out.1,HTK.out,fun h=>by have:=HNB2.out.2;omega⟩⟩);case measure=>rw[HL9.out,HMO.out];omega
          ·have hmI:¬(0:Int)<(qu2.length:Int)-(sh:Int):=by omega
           have HNS2:Hid (Qb5 hn ln sh qu2.length=sh):=Lh (by unfold Qb5;rw[if_neg hmo]);have HL9:Hid ((intOf ((w6.cell? ⟨Lb,0,none⟩).getD undef)).toNat=ln+1):=Lh (by rw[HL6.out.cell 0 rfl];show((ln+1:Nat):Int).toNat=ln+1;omega);rw[HNS2.out] at HFL;go_wp2_with fail;go_roundw;(case rel=>exact⟨ln+1,sh,ob2,_,qu2,HP6,HL6,HS6,HR6,HFL,Lh ⟨by omega,HSH.out,HTK.out,fun h=>by omega⟩⟩);case measure=>rw[HL9.out,HMO.out];omega
 ·obtain⟨e0,he0⟩:∃e0,Qa8 body notes h=e0:=⟨_,rfl⟩;rw[he0] at hE;have HE0:=Lh he0;have hne:(e0 != 0)=true:=(by simpa using hE);simp only[he0] at HC ⊢;have HE:=Lh hE;clear hE he0;go_enter Tryz.func173,Tryz.ntmps173;go_wp2_with (first|(go_at_call 197;refine(HC.out _ HB0.out).mono ?_;rintro e w2 ⟨rfl,hb2⟩)|fail);go_ret2;exact⟨_,rfl,fun h=>absurd h HE.out,fun _=>rfl,HB0.out.trans (hb2.mono HB0.out.size)⟩
theorem QeR {α:Type}(l:List α)(i j:Nat):(Qef l i j).length≤l.length:=by
 unfold Qef;rw[List.length_drop,qK];omega
theorem gapsP_le (ws:List Int)(m:Int)(last:Bool):(Qeo ws m last).length≤ws.length:=by
 unfold Qeo;split
 ·simp
 ·split
  ·rw[List.length_replicate];omega
  ·rw[qM,List.length_range];omega
theorem notesP_le (l:List Word):(QaT l).length≤l.length:=by
 unfold QaT;rw[qM];exact List.length_filter_le _ _
theorem Qcm {N:Nat}(ws:List Word)(wd:List Int)(m first:Int)(h1:ws.length≤N)(h2:wd.length≤N):∀(es:List Nat) (i:Nat),∀x∈QaA ws wd m first i es,x.gaps.length≤N∧x.notes.length≤N
 |[],_,x,hx=>absurd hx (by simp[QaA])
 |e::es,i,x,hx=>by
  rw[QaA] at hx;rcases List.mem_cons.1 hx with rfl|hx
  ·exact⟨Nat.le_trans (gapsP_le _ _ _) (Nat.le_trans (QeR _ _ _) h2),Nat.le_trans (notesP_le _) (Nat.le_trans (QeR _ _ _) h1)⟩
  ·exact Qcm ws wd m first h1 h2 es e x hx
theorem setP_small {p:List Word}(first m:Int)(h:p.length≤500):Qb0 (setP p first m):=by
 intro x hx;have:=Qcm (N:=500) p (Qah p) m first h (by unfold Qah;rw[qM];exact h) _ _ x hx
 omega
theorem Qcn (m:Int):∀(l:List (List Word)) (first:Int),(∀p∈l,p.length≤500)→∀n∈Qaz m first l,Qb0 n
 |[],_,_,n,hn=>absurd hn (by simp[Qaz])
 |p::l,first,h,n,hn=>by
  rw[Qaz] at hn;rcases List.mem_cons.1 hn with rfl|hn
  ·exact setP_small first m (h p (by simp))
  ·exact Qcn m l _ (fun q hq=>h q (by simp[hq])) n hn
theorem FineT.small {a b:List (List Word)}(h:FineT a b)(m:Int):Qb0 (QaX a m)∧∀n∈Qau a b m,Qb0 n:=
 ⟨fun x hx=>by
  unfold QaX at hx
  obtain⟨l,hl,hx⟩:=List.mem_flatten.1 hx
  exact Qcn m a 0 (fun p hp=>(h.p p (by simp[hp])).2) l hl x hx,fun n hn=>Qcn m b _ (fun p hp=>(h.p p (by simp[hp])).2) n hn⟩
theorem QcT {a b:List (List Word)}(h:FineT a b){m:Int}(h1:500≤m)(h2:m≤2000):(QaX a m).length+(Qau a b m).flatten.length≤100000:=by
 have e1:=QbM m a 0 (fun p hp=>h.reg h1 h2 (by simp[hp]));have e2:=QbM m b (tot a:Nat) (fun p hp=>h.reg h1 h2 (by simp[hp]));have e3:=h.tot;rw[Qbd] at e3;unfold QaX Qau;omega
theorem QeP {a b:List (List Word)}{m:Int}(h:QbE a b m=0):FineT a b∧500≤m∧m≤2000:=by
 unfold QbE at h;split at h
 ·rename_i hc;exact absurd h hc
 ·rename_i hc;split at h
  ·rename_i hm;exact⟨chk_zero (Decidable.not_not.1 hc),hm⟩
  ·exact absurd h (by decide)
set_option maxRecDepth 100000 in
theorem ptext_any (A B:Option Addr)(c d:Nat)(a b:List (List Word))(m h:Int)(w:World)(hT:Laid w)(ha:Sl w (fun b=>b<w.heap.size) A c a)(hb:Sl w (fun b=>b<w.heap.size) B d b)(hI:I64 h)(hla:a.length≤1048576)(hlb:b.length≤1048576):
 Calls Tryz.prog 125 #[.agg #[.slice A a.length c,.slice B b.length d],.int .i64 m,.int .i64 h] w fun e w'=>∃v,e=.returned (.tuple #[v,.int .i64 (textE a b m h)])∧ (textE a b m h=0→Own w' w.heap.size 43 v ((QaP a b m h.toNat).map (Bd.mk:PageP→Bd PageP w.heap.size)))∧(textE a b m h≠0→v=.slice none 0 0)∧Below w.heap.size w w':=by
 have hba:Below w.heap.size w (w.alloc (.cells #[.slice A a.length c,.slice B b.length d] 36)):=bR.alloc nL _;have HL:=Lh (lines_any A B c d a b m (w.alloc (.cells #[.slice A a.length c,.slice B b.length d] 36)) (hT.to hba) (ha.to hba) (hb.to hba) hla hlb);have HBA:=Lh hba;have c0:(w.alloc (.cells #[.slice A a.length c,.slice B b.length d] 36)).cell? ⟨w.heap.size,0,none⟩=some (.slice A a.length c):=cell_of_row _ _ 0 _ _ _ (heap_alloc_new w _);have c1:(w.alloc (.cells #[.slice A a.length c,.slice B b.length d] 36)).cell? ⟨w.heap.size,1,none⟩=some (.slice B b.length d):=cell_of_row _ _ 1 _ _ _ (heap_alloc_new w _);obtain⟨q,hq⟩:∃q,QbE a b m=q:=⟨_,rfl⟩;rw[hq] at HL;have HQ:=Lh hq;clear hT ha hb hba hq;by_cases hq0:q=0
 ·subst hq0;go_enter Tryz.func125,Tryz.ntmps125;go_wp2_with (first|(go_at_call 40;refine HL.out.mono ?_;rintro e w2 ⟨v,u,rfl,h1,-,hb2⟩;have h1:=h1 trivial)|fail);obtain⟨A1,c1,rfl,hs1⟩:=Qc7 h1.1 nL;obtain⟨A2,c2,rfl,hs2⟩:=Qc7 h1.2 nL;obtain⟨hfn,hm1,hm2⟩:=QeP HQ.out;have hlen:=QcT hfn hm1 hm2;have hsm:=hfn.small m;have hnl:(Qau a b m).length≤1048576:=(by unfold Qau;rw[Qbi];exact hlb);have HB2:=Lh (HBA.out.trans (hb2.mono HBA.out.size));have HSB:Hid (w.heap.size≤w2.heap.size):=Lh HB2.out.size;refine(pset_any A1 A2 c1 c2 (QaX a m) (Qau a b m) h w2 (hs1.mono fun i h _=>h.1) (hs2.mono fun i h _=>h.1) hI hnl (by omega) hsm.1 hsm.2).mono ?_;rintro e w3 ⟨v,rfl,h2,h3,hb3⟩;have HE:Hid (textE a b m h=Qa8 (QaX a m) (Qau a b m) h):=Lh (by unfold textE;rw[HQ.out,if_neg (by simp)]);have H2:=Lh h2;have H3:=Lh h3;have HB3:=Lh (HB2.out.trans (hb3.mono HB2.out.size));clear h1 hs1 hs2 hfn hm1 hm2 hlen hsm hnl h2 h3 hb3 hb2 HL;go_wp2_with fail;go_ret2;rw[HE.out];refine⟨_,rfl,fun h0=>?_,H3.out,HB3.out⟩;have h4:=(H2.out h0).re HSB.out;refine h4.conv _ (by rw[qM,qM];rfl) rfl (fun i h1 h2 es he=>?_);rw[List.getElem_map] at he ⊢;exact Rep.mono (α:=PageP) he (fun b hb _=>⟨hb.1,Nat.le_trans HSB.out hb.2⟩)
 ·have hqb:(q != 0)=true:=by simpa using hq0
  have HQ0:=Lh hq0;clear hq0;go_enter Tryz.func125,Tryz.ntmps125;go_wp2_with (first|(go_at_call 40;refine HL.out.mono ?_;rintro e w2 ⟨v,u,rfl,-,h1,hb2⟩;have HB2:=Lh (HBA.out.trans (hb2.mono HBA.out.size));clear h1 hb2)|fail);go_ret2;have HE:textE a b m h=q:=(by unfold textE;rw[HQ.out,if_pos HQ0.out]);exact⟨_,by rw[HE];rfl,fun h0=>absurd (HE▸h0) HQ0.out,fun _=>rfl,HB2.out⟩
def Qbo (m h:Int)(a b:List (List Word)):Int:=if textE a b m h≠0 then textE a b m h else if tot (a++b)=0 then 1 else 0
theorem Qba {a b:List (List Word)}{m h:Int}(hE:textE a b m h=0):FineT a b∧(500≤m∧m≤2000)∧Qa8 (QaX a m) (Qau a b m) h=0:=by
 unfold textE at hE;split at hE
 ·rename_i h1;exact absurd hE h1
 ·rename_i h1;have h2:=QeP (Decidable.not_not.1 h1);exact⟨h2.1,h2.2,hE⟩
set_option maxRecDepth 100000 in
theorem wrong_any (A B:Option Addr)(c d:Nat)(a b:List (List Word))(m h:Int)(vs:Value)(_hv:vs.oneCell'=true)(w:World)(hT:Laid w)(ha:Sl w (fun b=>b<w.heap.size) A c a)(hb:Sl w (fun b=>b<w.heap.size) B d b)(hI:I64 h)(hla:a.length≤1048576)(hlb:b.length≤1048576):
 Calls Tryz.prog 105 #[.agg #[.int .i64 m,.int .i64 h,vs],.agg #[.slice A a.length c,.slice B b.length d]] w fun e w'=>e=.returned (.int .i64 (Qbo m h a b))∧Below w.heap.size w w':=by
 obtain⟨wb,hwb⟩:∃wb,(w.alloc (.cells #[.int .i64 m,.int .i64 h,vs] 25)).alloc (.cells #[.slice A a.length c,.slice B b.length d] 36)=wb:=⟨_,rfl⟩;have hba:Below w.heap.size w wb:=by rw[←hwb];exact(bR.alloc nL _).alloc (by simp) _
 have hx0:ABox wb w.heap.size 25 [.int .i64 m,.int .i64 h,vs]:=by rw[←hwb];exact(Below.heap_alloc _ _ _ (by simp)).trans (heap_alloc_new w _)
 have hx1:ABox wb (w.heap.size+1) 36 [.slice A a.length c,.slice B b.length d]:=by rw[←hwb];exact Qai (by simp)
 have HX1:=Lh hx1;have HP:=Lh (ptext_any A B c d a b m h wb (hT.to hba) (ha.to hba) (hb.to hba) hI hla hlb);have HSA:=Lh (ha.to hba);have HSB:=Lh (hb.to hba);have HBA:=Lh hba;have c0:=hx0.cell 0 rfl;have c1:=hx0.cell 1 rfl;have d0:=hx1.cell 0 rfl;have d1:=hx1.cell 1 rfl;obtain⟨q,hq⟩:∃q,textE a b m h=q:=⟨_,rfl⟩;rw[hq] at HP;have HQ:=Lh hq;clear hT ha hb hba hq hx0 hx1;by_cases hq0:q=0
 ·subst hq0;obtain⟨hfn,-,-⟩:=Qba HQ.out;have htot:=hfn.tot;have HE:Hid (Qbo m h a b=if tot (a++b)=0 then 1 else 0):=Lh (by unfold Qbo;rw[HQ.out,if_neg (by simp)])
  have HCT:Hid (∀W,Below wb.heap.size wb W→Calls Tryz.prog 151 #[.agg #[.slice A a.length c,.slice B b.length d]] W fun e w'=>e=.returned (.int .i64 (tot (a++b):Int))∧Below W.heap.size W w'):=Lh (fun W hW=>
   count_any A B c d a b W (HSA.out.to hW) (HSB.out.to hW) hla hlb (by omega))
  clear hfn HQ;go_enter Tryz.func105,Tryz.ntmps105;go_upto_region 1 with(fail);have HWB:=Lh hwb;clear hwb;by_cases ht0:tot (a++b)=0
  ·rw[ht0] at HCT;rw[if_pos ht0] at HE;clear ht0 htot
   go_wp2_with (first|(go_at_call 125;refine HP.out.mono ?_;rintro e w2 ⟨v,rfl,-,-,hb2⟩;have e0:w2.cell? ⟨w.heap.size+1,0,none⟩=some (.slice A a.length c):=(HX1.out.to hb2).cell 0 rfl;have e1:w2.cell? ⟨w.heap.size+1,1,none⟩=some (.slice B b.length d):=(HX1.out.to hb2).cell 1 rfl;have HB2:=Lh hb2;clear hb2)|(go_at_call 151;refine(HCT.out _ HB2.out).mono ?_;rintro e w3 ⟨rfl,hb3⟩;have HB3:=Lh (HBA.out.trans ((HB2.out.trans (hb3.mono HB2.out.size)).mono HBA.out.size));clear hb3)|fail)
   go_ret;exact⟨by rw[HE.out];rfl,HB3.out⟩
  ·have hti:((tot (a++b):Int)==0)=false:=by rw[beq_eq_false_iff_ne];omega
   rw[if_neg ht0] at HE;clear ht0 htot;generalize (tot (a++b):Int)=tt at*
   go_wp2_with (first|(go_at_call 125;refine HP.out.mono ?_;rintro e w2 ⟨v,rfl,-,-,hb2⟩;have e0:w2.cell? ⟨w.heap.size+1,0,none⟩=some (.slice A a.length c):=(HX1.out.to hb2).cell 0 rfl;have e1:w2.cell? ⟨w.heap.size+1,1,none⟩=some (.slice B b.length d):=(HX1.out.to hb2).cell 1 rfl;have HB2:=Lh hb2;clear hb2)|(go_at_call 151;refine(HCT.out _ HB2.out).mono ?_;rintro e w3 ⟨rfl,hb3⟩;have HB3:=Lh (HBA.out.trans ((HB2.out.trans (hb3.mono HB2.out.size)).mono HBA.out.size));clear hb3)|fail)
   go_ret;exact⟨by rw[HE.out];rfl,HB3.out⟩
 ·have HE:Hid (Qbo m h a b=q):=Lh (by unfold Qbo;rw[HQ.out,if_pos hq0]);have hqb:(q != 0)=true:=(by simpa using hq0);clear hq0;go_enter Tryz.func105,Tryz.ntmps105;go_upto_region 1 with(fail);have HWB:=Lh hwb;clear hwb;go_wp2_with (first|(go_at_call 125;refine HP.out.mono ?_;rintro e w2 ⟨v,rfl,-,-,hb2⟩;have HB2:=Lh (HBA.out.trans (hb2.mono HBA.out.size));clear hb2)|fail);go_ret;exact⟨by rw[HE.out];rfl,HB2.out⟩
def QbB (l:List SectP)(e:Int):Int:=if l.findIdx (fun s=>decide (s.entry=e))<l.length then(l.findIdx (fun s=>decide (s.entry=e)):Int) else -1
theorem QeA {l:List SectP}{e:Int}{k:Nat}(hk:k<l.length)(h:l[k].entry=e)(hn:∀i (hi:i<k),(l[i]'(by omega)).entry≠e):QbB l e=(k:Int):=by
 have:l.findIdx (fun s=>decide (s.entry=e))=k:=(List.findIdx_eq hk).2 ⟨by simp[h],fun i hi=>by simpa using hn i hi⟩;unfold QbB;rw[this,if_pos hk]
theorem findP_none {l:List SectP}{e:Int}(hn:∀i (hi:i<l.length),l[i].entry≠e):QbB l e= -1:=by
 unfold QbB;rw[if_neg];rw[List.findIdx_lt_length];rintro⟨x,hx,hp⟩;obtain⟨i,hi,rfl⟩:=List.mem_iff_getElem.1 hx;exact hn i hi (by simpa using hp)
theorem QeC (l:List SectP)(e:Int):QbB l e= -1∨∃(k:Nat) (hk:k<l.length),QbB l e=(k:Int)∧l[k].entry=e:=by
 unfold QbB;by_cases h:l.findIdx (fun s=>decide (s.entry=e))<l.length
 ·rw[if_pos h];refine .inr ⟨_,h,rfl,?_⟩;have:=List.findIdx_getElem (w:=h);simpa using this
 ·rw[if_neg h];exact .inl rfl
theorem Qds {w:World}{S:Nat→Prop}{A:Option Addr}{c:Nat}{l:List SectP}(h:Sl w S A c l){k:Nat}(hk:k<l.length):
 ∃b o Ag cg An cn,A=some ⟨b,o,none⟩∧S b∧b<w.heap.size∧w.cell? ⟨b,o+k*4,none⟩=some (.int .i64 l[k].entry)∧w.cell? ⟨b,o+k*4+1,none⟩=some (.bool l[k].frozen)∧ w.cell? ⟨b,o+k*4+2,none⟩=some (.slice Ag l[k].vers.length cg)∧w.cell? ⟨b,o+k*4+3,none⟩=some (.slice An l[k].texts.length cn)∧Sl w S Ag cg l[k].vers∧Sl w S An cn l[k].texts∧I64 l[k].entry:=by
 obtain⟨b,o,es,rfl,hb,hlt,⟨va,vb,rfl,hI,⟨Ag,cg,e1,hg,_⟩,⟨An,cn,e2,hn,_⟩⟩,hc⟩:=h.at_ hk;cases e1;cases e2;exact⟨b,o,Ag,cg,An,cn,rfl,hb,hlt,hc 0 _ rfl,hc 1 _ rfl,hc 2 _ rfl,hc 3 _ rfl,hg,hn,hI⟩
theorem find1_any (e1 e:Int)(f:Bool)(va vb:Value)(Eb:Nat)(w:World)(hc:w.cell? ⟨Eb,0,none⟩=some (.int .i64 e))(hl:Eb<w.heap.size):
 Calls Tryz.prog 127 #[.agg #[.int .i64 e1,.bool f,va,vb],.pointer (some ⟨Eb,0,none⟩)] w fun x w'=>x=.returned (.bool (decide (e1=e)))∧Below w.heap.size w w':=by
 obtain⟨wb,hwb⟩:∃wb,w.alloc (.cells #[.int .i64 e1,.bool f,va,vb] 74)=wb:=⟨_,rfl⟩;have hba:Below w.heap.size w wb:=by rw[←hwb];exact bR.alloc nL _
 have c0:wb.cell? ⟨w.heap.size,0,none⟩=some (.int .i64 e1):=by rw[←hwb];exact cell_of_row _ _ 0 _ _ _ (heap_alloc_new w _)
 have c1:wb.cell? ⟨Eb,0,none⟩=some (.int .i64 e):=(hba.cell (p:=⟨Eb,0,none⟩) hl).trans hc;have HB:=Lh hba;clear hba;go_enter Tryz.func127,Tryz.ntmps127;go_wp2_with fail;go_ret;refine⟨Qat ?_,HB.out⟩;rw[Bool.eq_iff_iff,beq_iff_eq,decide_eq_true_iff]
set_option maxRecDepth 100000 in
theorem indexS_any (A:Option Addr)(c:Nat)(l:List SectP)(Eb:Nat)(e:Int)(w:World)(hs:Sl w (fun b=>b<w.heap.size) A c l)(hc:w.cell? ⟨Eb,0,none⟩=some (.int .i64 e))(hl:Eb<w.heap.size)(h63:l.length≤1073741824):
 Calls Tryz.prog 126 #[.slice A l.length c,.func (.func 127) #[] #[.pointer (some ⟨Eb,0,none⟩)]] w fun x w'=>x=.returned (.int .i64 (QbB l e))∧Below w.heap.size w w':=by
 have HS:=Lh hs
 have HC:Hid (∀W e1 f va vb,Below w.heap.size w W→Calls Tryz.prog 127 #[.agg #[.int .i64 e1,.bool f,va,vb],.pointer (some ⟨Eb,0,none⟩)] W fun x w'=>x=.returned (.bool (decide (e1=e)))∧Below W.heap.size W w'):=
  Lh (fun W e1 f va vb hW=>find1_any e1 e f va vb Eb W ((hW.cell (p:=⟨Eb,0,none⟩) hl).trans hc) (by have:=hW.size;omega))
 clear hs hc hl;go_enter Tryz.func126,Tryz.ntmps126;go_wp2_with fail;go_loopw [5,8] (fun _ i wr=>∃k:Nat,k≤l.length∧i=.int .i64 k∧Hid (∀i (hi:i<l.length),i<k→l[i].entry≠e)∧Hid (Below w.heap.size w wr)) (fun _ i _=>l.length-(intOf i).toNat);(case atStart=>exact⟨0,Nat.zero_le _,rfl,Lh (fun i hi h=>absurd h (Nat.not_lt_zero _)),Lh bR⟩);case round=>
  obtain⟨k,hk,rfl,HN,HB⟩:=hrel;by_cases hlt:k<l.length
  ·obtain⟨b,o,Ag,cg,An,cn,rfl,_,hbl,k0,k1,k2,k3,-,-,-⟩:=Qds (HS.out.to HB.out) hlt;have hkl:(k:Int)<(l.length:Int):=(by omega);have hk0:(0:Int)≤(k:Int):=(by omega);have hlc:l.length≤c:=HS.out.1;have HX:Hid (∃x,l[k]=x):=Lh ⟨_,rfl⟩;obtain⟨x,hx⟩:=HX.out;have HXE:=Lh hx;rw[hx] at k0 k1 k2 k3;clear hx HX;go_wp2_with fail;refine(HC.out _ _ _ _ _ HB.out).mono ?_;rintro e w' ⟨rfl,hb2⟩;have HB2:=Lh (HB.out.trans (hb2.mono HB.out.size));clear hb2 k0 k1 k2 k3;by_cases hq:x.entry=e
   ·have HF:Hid (QbB l e=(k:Int)):=Lh (QeA hlt (by rw[HXE.out];exact hq) (fun i hi=>HN.out i (by omega) hi));rw[decide_eq_true hq];clear hq;go_wp2_with fail;go_ret;exact⟨by rw[HF.out];rfl,HB2.out⟩
   ·rw[decide_eq_false hq]
    have HN2:Hid (∀i (hi:i<l.length),i<k+1→l[i].entry≠e):=Lh (fun i hi h=>by
     by_cases hik:i=k
     ·subst hik;rw[HXE.out];exact hq
     ·exact HN.out i hi (by omega))
    clear hq;go_wp2_with fail;go_roundw;(case rel=>exact⟨k+1,by omega,by go_num,HN2,HB2⟩);case measure=>simp[intOf];omega
  ·have HF:Hid (QbB l e= -1):=Lh (findP_none fun i hi=>HN.out i hi (by omega));go_wp2_with fail;go_ret;exact⟨by rw[HF.out];rfl,HB.out⟩
set_option maxRecDepth 100000 in
theorem find_any (A:Option Addr)(c:Nat)(l:List SectP)(m h e:Int)(w:World)(hs:Sl w (fun b=>b<w.heap.size) A c l)(h63:l.length≤1073741824):
 Calls Tryz.prog 69 #[.agg #[.int .i64 m,.int .i64 h,.slice A l.length c],.int .i64 e] w fun x w'=>x=.returned (.int .i64 (QbB l e))∧Below w.heap.size w w':=by
 obtain⟨wb,hwb⟩:∃wb,(w.alloc (.cells #[.int .i64 m,.int .i64 h,.slice A l.length c] 25)).alloc (.cells #[.int .i64 e] 3)=wb:=⟨_,rfl⟩;have hba:Below w.heap.size w wb:=by rw[←hwb];exact(bR.alloc nL _).alloc (by simp) _
 have hx0:ABox wb w.heap.size 25 [.int .i64 m,.int .i64 h,.slice A l.length c]:=by rw[←hwb];exact(Below.heap_alloc _ _ _ (by simp)).trans (heap_alloc_new w _)
 have hx1:ABox wb (w.heap.size+1) 3 [.int .i64 e]:=by rw[←hwb];exact Qai (by simp)
 have HI:=Lh (indexS_any A c l (w.heap.size+1) e wb (hs.to hba) (hx1.cell 0 rfl) hx1.lt h63);have c2:=hx0.cell 2 rfl;have HB:=Lh hba;clear hs hba hx0 hx1;go_enter Tryz.func69,Tryz.ntmps69
 go_wp2_with (first|(go_at_call 126;refine HI.out.mono ?_;rintro x w2 ⟨rfl,hb2⟩;have HB2:=Lh (HB.out.trans (hb2.mono HB.out.size));clear hb2)|fail)
 go_ret;exact⟨rfl,HB2.out⟩
theorem word_infoB:(Tryz.prog.info? 66).map (fun i=>(i.zero,i.size,i.bytes))=some (some (.agg #[.string ⟨#[]⟩,.string ⟨#[]⟩,.int .i64 0,.int .i64 0]),Rep.size Word,48):=by kernel_rfl
theorem par_info:(Tryz.prog.info? 110).map (fun i=>(i.zero,i.size,i.bytes))=some (some (.slice none 0 0),1,24):=by kernel_rfl
theorem wclone_any (A:Option Addr)(c n:Nat)(l:List Word)(w:World)(hl:Sl w (fun b=>b<w.heap.size) A c l)(hn:l.length=n)(hsz:n≤1073741824):
 Calls Tryz.prog 82 #[.slice A n c] w fun e w'=>∃v,e=.returned v∧Own w' w.heap.size 66 v l∧Below w.heap.size w w':=by
 have hq:=fun w'=>Lib.run_eql_slice_nil (P:=Tryz.prog) w' 110 66 A n c 0 0 Tryz.underlying110
 cases A with
 |none=>
  have hl0:l=[]:=by
   by_cases h0:0<l.length
   ·obtain⟨b,o,e,_⟩:=hl.2.2 h0;cases e
   ·exact List.eq_nil_of_length_eq_zero (by omega)
  subst hl0;simp only[Option.isNone_none] at hq;go_enter Tryz.func82,Tryz.ntmps82;go_wp2_with fail;go_ret;exact⟨_,rfl,Own.nil _ _ _,Below.refl _ _⟩
 |some a=>
  simp only[Option.isNone_some] at hq;go_enter Tryz.func82,Tryz.ntmps82;go_wp2_with (at_builtin;refine QaC (α:=Word) _ rfl (.tmp 5) (.tmp 6) 110 rfl w.heap.size 66 (.agg #[.string ⟨#[]⟩,.string ⟨#[]⟩,.int .i64 0,.int .i64 0]) 48 Tryz.underlying110 word_infoB rfl (by decide) (.slice (some ⟨w.heap.size,0,none⟩) 0 0) [] rfl (Own.made w _ _ nL) (some a) c n l rfl hn (fun b=>b<w.heap.size) (hl.keep (Kept.all (bR.alloc nL _)) (by simp)) (by intro i (hi:i<w.heap.size) _ e;simp[Value.ownBlock] at e;omega) (by simp;omega) (by simp;omega) (by simp) ?_;intro v2 w2 hown2 hg2 _);go_ret;exact⟨_,rfl,hown2,QaL (bR.alloc nL _) (Own.made (α:=Word) w _ _ nL) (by simp) hg2⟩
theorem Own.upF {α:Type}[Rep α][Flat α]{w:World}{base B:Nat}{e:TypeId}{v:Value}{l:List α}(h:Own w base e v l)(hB:B≤base):OwnP w B e v l (fun b=>B≤b):=
 ⟨(h.conv (l.map (Av.mk:α→Av α (fun b=>B≤b))) (by rw[qM]) rfl (fun i h1 h2 es he=>by
   rw[List.getElem_map]
   exact Flat.flat (α:=α) he)).re hB,fun g hg=>Nat.le_trans hB (h.lt g hg).1⟩
abbrev Up (B:Nat):Nat→Prop:=fun b=>B≤b
def QbP (l:List (List Word)):Prop:=l.length≤1048576∧∀p∈l,p.length≤1048576
set_option maxRecDepth 100000 in
theorem parts_any (A:Option Addr)(c:Nat)(l:List (List Word))(w:World)(hs:Sl w (fun b=>b<w.heap.size) A c l)(hsh:QbP l):
 Calls Tryz.prog 128 #[.slice A l.length c] w fun e w'=>∃v,e=.returned v∧OwnP w' w.heap.size 110 v l (Up w.heap.size)∧Below w.heap.size w w':=by
 have HS:=Lh hs;have HSH:=Lh hsh;have h63:l.length≤1048576:=hsh.1;clear hs hsh;go_enter Tryz.func128,Tryz.ntmps128;go_wp2_with fail;go_loopw [3,8] (fun v3 i wr=>∃k:Nat,k≤l.length∧i=.int .i64 k∧Hid (OwnP wr w.heap.size 110 v3 (l.take k) (Up w.heap.size))∧Hid (Below w.heap.size w wr)) (fun _ i _=>l.length-(intOf i).toNat);(case atStart=>exact⟨0,Nat.zero_le _,rfl,Lh (OwnP.nil _ _ _ _),Lh bR⟩);case round=>
  obtain⟨k,hk,rfl,HO,HB⟩:=hrel;by_cases hlt:k<l.length
  ·obtain⟨b,o,A1,c1,rfl,_,hbl,k0,hp⟩:=Qb8 (HS.out.to HB.out) hlt;have hkl:(k:Int)<(l.length:Int):=(by omega);have hk0:(0:Int)≤(k:Int):=(by omega);have hlc:l.length≤c:=HS.out.1;have HPL:=Lh (HSH.out.2 _ (List.getElem_mem hlt));have HTK:Hid (l.take (k+1)=l.take k++[l[k]]):=Lh (qT hlt);obtain⟨p,hpp⟩:∃p,l[k]=p:=⟨_,rfl⟩;rw[hpp] at k0 hp HPL HTK;have HP:=Lh hp;clear hpp hp;obtain⟨A3,c3,hv3,-,-⟩:=HO.out.len;have hol:(l.take k).length=k:=(by rw[qK];omega);rw[hol] at hv3;subst hv3
   go_wp2_with (first
    |(go_at_call 82;refine(wclone_any A1 c1 p.length p wr HP.out rfl (by have:=HPL.out;omega)).mono ?_;rintro e w2 ⟨v,rfl,ho,hb2⟩;have HU:=Lh (ho.upF (B:=wr.heap.size) nL);have HB2:=Lh hb2;clear ho hb2;obtain⟨A4,c4,rfl,-,-⟩:=HU.out.len;have HO2:Hid (OwnP (w2.alloc (.cells #[.slice A4 p.length c4] 110)) w.heap.size 110 (.slice A3 k c3) (l.take k) (Up w.heap.size)):=Lh ((HO.out.below HB2.out).below (bR.alloc nL _));have HR2:Hid (Rep.R (w2.alloc (.cells #[.slice A4 p.length c4] 110)) (fun b=>some b≠(Value.slice A3 k c3).ownBlock) [.slice A4 p.length c4] (⟨p⟩:Av (List Word) (Up w.heap.size))):=Lh (Rep.keep (α:=List Word) (HU.out.rep (by have:=HPL.out;omega) (fun i hi hil=>⟨fun e=>by have:=(HO.out.lt i e.symm).2;omega,Nat.le_trans HB.out.size hi⟩)) (Kept.all (bR.alloc nL _)));have HBZ:Hid (Below w.heap.size w (w2.alloc (.cells #[.slice A4 p.length c4] 110))):=Lh ((HB.out.trans (HB2.out.mono HB.out.size)).trans (bR.alloc (by have:=HB.out.size;have:=HB2.out.size;omega) _)))
    |(at_builtin;refine Qav _ (α:=Av (List Word) (Up w.heap.size)) rfl (.tmp 12) (.tmp 15) 34 rfl w.heap.size 110 (.slice none 0 0) 24 Tryz.underlying34 par_info rfl (show 0<1 by decide) (.slice A3 k c3) ((l.take k).map Av.mk) rfl HO2.out.own w2.heap.size #[.slice A4 p.length c4] ⟨p⟩ (0,0) _ rfl (heap_alloc_new w2 _) HR2.out (by rw[qM,hol];omega) (by rw[qM,hol];omega) HBZ.out.size _ rfl ?_;rw[qM,hol];intro g cap w3 ho3 hg3 hat3 hlt3;have HO3:=Lh (HO2.out.pushed ho3 (fun q hq=>by cases hq;exact hat3) HBZ.out.size);have HB3:Hid (Below w.heap.size w w3):=Lh (HBZ.out.grown hg3 HBZ.out.size (fun q hq=>(HO2.out.lt q hq).1));clear ho3 hg3 hat3 hlt3 HO2 HR2 HBZ)
    |fail)
   go_roundw;(case rel=>exact⟨k+1,by omega,by go_num,Lh (by rw[HTK.out];exact HO3.out),HB3⟩);case measure=>simp[intOf];omega
  ·have HF:Hid (l.take k=l):=Lh (List.take_of_length_le (by omega));go_wp2_with fail;go_ret;exact⟨_,rfl,by have:=HO.out;rwa [HF.out] at this,HB.out⟩
theorem QbW {P:Program}{fn:Func}{p:Tmp}{ty:TypeId}(h:fn.results=#[.cell p ty])(tmps:Array Value)(w:World)(g:Nat)(t:TypeId)(cs:Array Value)(fr:Nat × Nat)(d:TypeDesc) (hp:tmps.getD p undef=.pointer (some ⟨g,0,none⟩)) (hg:w.heap[g]? =some (.cells cs t fr)) (hu:P.underlying ty=some d) (hd:(match d with|.struct _|.array _ _=>true|_=>false)=true) (hi:(P.info? ty).map (·.size)=some cs.size):
 (results fn tmps).run P w=.ok (.agg cs) w:=by
 have hp':tmps[p]?.getD undef=.pointer (some ⟨g,0,none⟩):=by simpa using hp
 simp[results,h,hp',asAddr,run_loadVar_row w g t ty cs fr d hg hu hd hi]
def SP.rp {α:Type}[Rep α](B:Nat)(l:List α):SP:=⟨fun v w=>(∃A c,v=.slice A l.length c)∧Rep.R w (Up B) [v] l,fun _ _ _ h hb=>⟨h.1,Rep.keep h.2 (Kept.all hb)⟩⟩
set_option maxRecDepth 100000 in
theorem Qet (A B:Option Addr)(c d:Nat)(a b:List (List Word))(w:World)(ha:Sl w (fun b=>b<w.heap.size) A c a)(hb:Sl w (fun b=>b<w.heap.size) B d b)(hsa:QbP a)(hsb:QbP b):
 Calls Tryz.prog 71 #[.agg #[.slice A a.length c,.slice B b.length d]] w fun e w'=>∃va vb,e=.returned (.agg #[va,vb])∧Rep.R w' (Up w.heap.size) [va,vb] (⟨a,b⟩:TextP)∧Below w.heap.size w w':=by
 obtain⟨wb,hwb⟩:∃wb,(w.alloc (.cells #[.slice A a.length c,.slice B b.length d] 36)).alloc (.cells #[.slice none 0 0,.slice none 0 0] 36)=wb:=⟨_,rfl⟩;have hba:Below w.heap.size w wb:=by rw[←hwb];exact(bR.alloc nL _).alloc (by simp) _
 have hsz:wb.heap.size=w.heap.size+2:=by rw[←hwb];simp
 have hx0:ABox wb w.heap.size 36 [.slice A a.length c,.slice B b.length d]:=by rw[←hwb];exact(Below.heap_alloc _ _ _ (by simp)).trans (heap_alloc_new w _)
 have HX1:Hid (ABox wb (w.heap.size+1) 36 [.slice none 0 0,.slice none 0 0]):=Lh (by rw[←hwb];exact Qai (by simp));have HX0:=Lh hx0;have HSA:=Lh (ha.to hba);have HSB:=Lh (hb.to hba);have HA:=Lh hsa;have HB:=Lh hsb;have HBA:=Lh hba;have HSZ:=Lh hsz;clear hba hx0 ha hb hsa hsb hsz;go_enter Tryz.func71,Tryz.ntmps71;go_upto_region 1 with(fail);(try rw[hwb]);have HWB:=Lh hwb;clear hwb;refine Qap [2,5] (fun i=>if i=2 then SP.rp wb.heap.size a else if i=5 then SP.rp wb.heap.size b else SP.any) 7 (by kernel_rfl) (by kernel_rfl) ?_;intro T _ g hg hgm;have q0:∀d,(g d).cell? ⟨w.heap.size,0,none⟩=some (.slice A a.length c):=fun d=>(HX0.out.to (hg d)).cell 0 rfl
 have q1:∀D,(g D).cell? ⟨w.heap.size,1,none⟩=some (.slice B b.length d):=fun D=>(HX0.out.to (hg D)).cell 1 rfl
 (repeat(refine Qao (by rfl) fun Kq hq=>?_;go_big_quiet_step (fail);refine wpQuiet_nil (hq _ ?_);clear hq Kq));refine QaG (by rfl) (by rfl) (fun d hG K Q hK=>?_) (fun v2 d hG hp Kr hr=>?_)
 ·go_simp;go_at_call 128;refine(parts_any A c a (g d) (HSA.out.to (hg _)) HA.out).mono ?_;rintro e W1 ⟨v,rfl,ho,hb1⟩;go_simp;exact hK _ _ hb1 (show(∃A c,v=.slice A a.length c)∧Rep.R W1 (Up wb.heap.size) [v] a from⟨by obtain⟨A9,c9,e9,-⟩:=ho.len;exact⟨A9,c9,e9⟩,ho.rep (by have:=HA.out.1;omega) (fun i hi _=>Nat.le_trans (hg _).size hi)⟩)
 obtain⟨⟨Av2,cv2,rfl⟩,-⟩:=(show(∃A c,v2=.slice A a.length c)∧Rep.R (g d) (Up wb.heap.size) [v2] a from hp);(try clear hp);clear hG;go_frame;refine hr _ ?_;clear hr Kr;(repeat(refine Qao (by rfl) fun Kq hq=>?_;go_big_quiet_step (fail);refine wpQuiet_nil (hq _ ?_);clear hq Kq));refine QaG (by rfl) (by rfl) (fun d hG K Q hK=>?_) (fun v5 d hG hp Kr hr=>?_)
 ·go_simp;go_at_call 128;refine(parts_any B _ b (g d) (HSB.out.to (hg _)) HB.out).mono ?_;rintro e W1 ⟨v,rfl,ho,hb1⟩;go_simp;exact hK _ _ hb1 (show(∃A c,v=.slice A b.length c)∧Rep.R W1 (Up wb.heap.size) [v] b from⟨by obtain⟨A9,c9,e9,-⟩:=ho.len;exact⟨A9,c9,e9⟩,ho.rep (by have:=HB.out.1;omega) (fun i hi _=>Nat.le_trans (hg _).size hi)⟩)
 obtain⟨⟨Av5,cv5,rfl⟩,-⟩:=(show(∃A c,v5=.slice A b.length c)∧Rep.R (g d) (Up wb.heap.size) [v5] b from hp);(try clear hp);clear hG;go_frame;refine hr _ ?_;clear hr Kr;(repeat(refine Qao (by rfl) fun Kq hq=>?_;go_big_quiet_step (fail);refine wpQuiet_nil (hq _ ?_);clear hq Kq));refine QbZ 1 (by rfl) (by rfl) (fun d hG=>?_);have HR2:Hid (Rep.R (g d) (Up wb.heap.size) [.slice Av2 a.length cv2] a):=Lh (show(∃A c,_=Value.slice A a.length c)∧Rep.R (g d) (Up wb.heap.size) [.slice Av2 a.length cv2] a from hG 2).2;have HR5:Hid (Rep.R (g d) (Up wb.heap.size) [.slice Av5 b.length cv5] b):=Lh (show(∃A c,_=Value.slice A b.length c)∧Rep.R (g d) (Up wb.heap.size) [.slice Av5 b.length cv5] b from hG 5).2;have HXd:=Lh (HX1.out.to (hg d));have HBd:Hid (Below w.heap.size w (g d)):=Lh (HBA.out.trans ((hg d).mono HBA.out.size));clear q0 q1 hG hg hgm HX0 HX1;generalize g d=wx at*;clear g;have k0:=HXd.out.cell 0 rfl;have k1:=HXd.out.cell 1 rfl;have f0:=HXd.out.fz 0;have f1:=HXd.out.fz 1;have k2:=(HXd.out.set 0 (.slice Av2 a.length cv2)).cell 1 rfl;have f2:=(HXd.out.set 0 (.slice Av2 a.length cv2)).fz 1;refine QaN (i:=7) (oi:=_) rfl (by kernel_rfl) (by rfl) (fun K hK=>?_);go_simp;refine hK _ _ ?_;clear hK K;(try go_frame);refine wpAny_done (by kernel_rfl) ?_ _;unfold Exit.then;have HX2:=Lh ((HXd.out.set 0 (.slice Av2 a.length cv2)).set 1 (.slice Av5 b.length cv5));have HB2:Hid (Below w.heap.size w ((wx.setCell ⟨w.heap.size+1,0,none⟩ (.slice Av2 a.length cv2)).setCell ⟨w.heap.size+1,1,none⟩ (.slice Av5 b.length cv5))):=Lh ((HBd.out.setCell (p:=⟨w.heap.size+1,0,none⟩) (by show w.heap.size≤w.heap.size+1;omega) _).setCell (p:=⟨w.heap.size+1,1,none⟩) (by show w.heap.size≤w.heap.size+1;omega) _)
 have HK:Hid (Kept (Up wb.heap.size) wx ((wx.setCell ⟨w.heap.size+1,0,none⟩ (.slice Av2 a.length cv2)).setCell ⟨w.heap.size+1,1,none⟩ (.slice Av5 b.length cv5))):=Lh (fun i hi _=>by
  have h1:wb.heap.size≤i:=hi
  have h2:=HSZ.out
  exact(Qac _ _ 1 _ (by omega)).trans (Qac wx _ 0 _ (by omega)))
 clear k0 k1 f0 f1 k2 f2;go_wp2_with fail
 exact bodyPost_ret (v:=.agg #[.slice Av2 a.length cv2,.slice Av5 b.length cv5]) (QbW Tryz.results71 _ _ (w.heap.size+1) _ #[.slice Av2 a.length cv2,.slice Av5 b.length cv5] (0,0) _ rfl HX2.out Tryz.underlying36 rfl (by kernel_rfl)) rfl ⟨_,_,rfl,⟨_,_,rfl,Rep.mono (Rep.keep HR2.out HK.out) (fun i hi _=>by have h1:wb.heap.size≤i:=hi;have:=HSZ.out;show w.heap.size≤i;omega),Rep.mono (Rep.keep HR5.out HK.out) (fun i hi _=>by have h1:wb.heap.size≤i:=hi;have:=HSZ.out;show w.heap.size≤i;omega)⟩,HB2.out⟩
structure SC where
 e:Int
 f:Bool
 v1:Value
 v2:Value
instance:Rep SC where
 size:=4
 R _ _ cs x:=cs=[.int .i64 x.e,.bool x.f,x.v1,x.v2]∧x.v1.oneCell'=true∧x.v2.oneCell'=true
 len:=by rintro w S cs s ⟨rfl,_⟩;rfl
 one:=by
  rintro w S cs s ⟨rfl,h1,h2⟩ u hu;simp at hu;rcases hu with rfl|rfl|rfl|rfl
  ·rfl
  ·rfl
  ·exact h1
  ·exact h2
 keep:=by rintro w w' S cs s h _;exact h
 mono:=by rintro w S S' cs s h _;exact h
theorem Own.sc {w:World}{base:Nat}{e:TypeId}{v:Value}{P:Nat→Prop}{l:List SectP}(h:Own w base e v (l.map (Av.mk:SectP→Av SectP P))):
 ∃rows:List SC,rows.length=l.length∧Own w base e v rows∧∀i (h1:i<rows.length) (h2:i<l.length),rows[i].e=l[i].entry∧rows[i].f=l[i].frozen∧I64 l[i].entry∧Rep.R w P [rows[i].v1] l[i].vers∧Rep.R w P [rows[i].v2] l[i].texts:=by
 obtain⟨xs,hx,ho,hr⟩:=id h;rw[qM] at hx
 have key:∀n,n≤l.length→∃rows:List SC,rows.length=n∧∀i (h1:i<rows.length) (h2:i<l.length),(rows[i].e=l[i].entry∧rows[i].f=l[i].frozen∧I64 l[i].entry∧Rep.R w P [rows[i].v1] l[i].vers∧Rep.R w P [rows[i].v2] l[i].texts)∧Rep.R w (fun b=>some b≠v.ownBlock) ((xs.drop (i*4)).take 4) rows[i]:=by
  intro n;induction n with
  |zero=>exact fun _=>⟨[],rfl,fun i h=>absurd h (Nat.not_lt_zero _)⟩
  |succ n ih=>
   intro hn;obtain⟨rows,h1,h2⟩:=ih (by omega);have hrn:=hr n (by rw[qM];exact hn);rw[List.getElem_map] at hrn;have hone:=Rep.one hrn;obtain⟨va,vb,e1,hI,q1,q2⟩:=hrn;refine⟨rows++[⟨l[n].entry,l[n].frozen,va,vb⟩],by rw[qA,h1];rfl,fun i h3 h4=>?_⟩;by_cases hi:i<rows.length
   ·rw[List.getElem_append_left hi];exact h2 i hi h4
   ·obtain rfl:i=n:=by rw[qA,List.length_singleton] at h3;omega
    have e2:(rows++[(⟨l[i].entry,l[i].frozen,va,vb⟩:SC)])[i]=⟨l[i].entry,l[i].frozen,va,vb⟩:=(by rw[List.getElem_append_right (by omega)];simp[h1]);rw[e2];refine⟨⟨rfl,rfl,hI,Rep.mono q1 (fun i hi _=>hi.2),Rep.mono q2 (fun i hi _=>hi.2)⟩,e1,?_,?_⟩
    ·exact hone va (by rw[e1];simp)
    ·exact hone vb (by rw[e1];simp)
 obtain⟨rows,h1,h2⟩:=key l.length nL;exact⟨rows,h1,⟨xs,by rw[h1];exact hx,ho,fun i hi=>(h2 i hi (by omega)).2⟩,fun i hi1 hi2=>(h2 i hi1 hi2).1⟩
structure CS (W:World)(g:Nat)(rows:List SC)(l:List SectP)(k:Nat):Prop where
 own:Own W g 74 (.slice (some ⟨g,0,none⟩) l.length l.length) rows
 len:rows.length=l.length
 f:∀i (h1:i<rows.length) (h2:i<l.length),rows[i].e=l[i].entry∧rows[i].f=l[i].frozen∧I64 l[i].entry∧(i<k→Rep.R W (fun b=>g<b) [rows[i].v1] l[i].vers∧Rep.R W (fun b=>g<b) [rows[i].v2] l[i].texts)∧ (k≤i→Rep.R W (fun b=>b<g) [rows[i].v1] l[i].vers∧Rep.R W (fun b=>b<g) [rows[i].v2] l[i].texts)
section
variable {W W':World} {g:Nat} {rows:List SC} {l:List SectP} {k:Nat}
theorem CS.to (h:CS W g rows l k)(hb:Below W.heap.size W W'):CS W' g rows l k:=
 ⟨h.own.below hb,h.len,fun i h1 h2=>⟨(h.f i h1 h2).1,(h.f i h1 h2).2.1,(h.f i h1 h2).2.2.1,fun hk=>⟨Rep.keep ((h.f i h1 h2).2.2.2.1 hk).1 (Kept.all hb),Rep.keep ((h.f i h1 h2).2.2.2.1 hk).2 (Kept.all hb)⟩,fun hk=>⟨Rep.keep ((h.f i h1 h2).2.2.2.2 hk).1 (Kept.all hb),Rep.keep ((h.f i h1 h2).2.2.2.2 hk).2 (Kept.all hb)⟩⟩⟩
theorem CS.row (h:CS W g rows l k){i:Nat}(_hi:i<l.length)(hr:i<rows.length):
 W.cell? ⟨g,i*4,none⟩=some (.int .i64 rows[i].e)∧W.cell? ⟨g,i*4+1,none⟩=some (.bool rows[i].f)∧W.cell? ⟨g,i*4+2,none⟩=some rows[i].v1∧W.cell? ⟨g,i*4+3,none⟩=some rows[i].v2∧∀o,W.frozen? ⟨g,o,none⟩=false:=by
 obtain⟨g',cap,es,e1,-,-,-,hr,hc,hf⟩:=h.own.at_ (k:=i) hr;injection e1 with q1 _ _
 injection q1 with q1
 injection q1 with q1 _ _
 subst q1;obtain⟨rfl,-,-⟩:=hr;exact⟨hc 0 _ rfl,hc 1 _ rfl,hc 2 _ rfl,hc 3 _ rfl,hf⟩
theorem CS.done (h:CS W g rows l l.length):OwnP W g 74 (.slice (some ⟨g,0,none⟩) l.length l.length) l (Up g):=
 ⟨h.own.conv (α:=Av SectP (Up g)) (l.map Av.mk) (by rw[qM,h.len]) rfl (fun i h1 h2 es he=>by
  have h3:i<l.length:=(by rw[←h.len];exact h1)
  obtain⟨rfl,-,-⟩:=he
  obtain⟨e1,e2,hI,e3,-⟩:=h.f i h1 h3
  obtain⟨e4,e5⟩:=e3 h3
  rw[List.getElem_map,e1,e2]
  refine⟨_,_,rfl,hI,Rep.mono e4 (fun b hb _=>⟨?_,Nat.le_of_lt hb⟩),Rep.mono e5 (fun b hb _=>⟨?_,Nat.le_of_lt hb⟩)⟩
  ·simp[Value.ownBlock];have:g<b:=hb;omega
  ·simp[Value.ownBlock];have:g<b:=hb;omega),fun q hq=>by cases hq;exact Nat.le_refl _⟩
end
theorem text_at {w:World}{S:Nat→Prop}{A:Option Addr}{c:Nat}{l:List TextP}(h:Sl w S A c l){k:Nat}(hk:k<l.length):
 ∃b o Aa ca Ab cb,A=some ⟨b,o,none⟩∧S b∧b<w.heap.size∧w.cell? ⟨b,o+k*2,none⟩=some (.slice Aa l[k].a.length ca)∧w.cell? ⟨b,o+k*2+1,none⟩=some (.slice Ab l[k].b.length cb)∧Sl w S Aa ca l[k].a∧Sl w S Ab cb l[k].b:=by
 obtain⟨b,o,es,rfl,hb,hlt,⟨va,vb,rfl,⟨Ag,cg,e1,hg,_⟩,⟨An,cn,e2,hn,_⟩⟩,hc⟩:=h.at_ hk;cases e1;cases e2;exact⟨b,o,Ag,cg,An,cn,rfl,hb,hlt,hc 0 _ rfl,hc 1 _ rfl,hg,hn⟩
def ShortX (s:SectP):Prop:=s.vers.length≤1048576∧s.texts.length≤1048576∧∀t∈s.texts,QbP t.a∧QbP t.b
def QbX (l:List SectP):Prop:=l.length≤1048576∧∀s∈l,ShortX s
theorem Qe2:(Tryz.prog.info? 74).map (fun i=>(i.zero,i.size,i.bytes))=some (some (.agg #[.int .i64 0,.bool false,.slice none 0 0,.slice none 0 0]),4,64):=by kernel_rfl
theorem QeS:(Tryz.prog.info? 36).map (fun i=>(i.zero,i.size,i.bytes))=some (some (.agg #[.slice none 0 0,.slice none 0 0]),2,48):=by kernel_rfl
theorem texts_set (l:List TextP)(P:Nat→Prop){k:Nat}(hk:k<l.length):((l.take k++List.replicate (l.length-k) (⟨[],[]⟩:TextP)).map (Av.mk:TextP→Av TextP P)).set k ⟨l[k]⟩=((l.take (k+1)++List.replicate (l.length-(k+1)) (⟨[],[]⟩:TextP)).map (Av.mk:TextP→Av TextP P)):=by
 have hl:(l.take k).length=k:=by rw[qK];omega
 have e:l.length-k=(l.length-(k+1))+1:=by omega
 rw[←List.map_set,List.set_append_right _ _ (by omega),hl,Nat.sub_self,e,List.replicate_succ,sZ0,qT hk,List.append_assoc];rfl
section
variable {P:Program} {ops:Array Oper} {Q:Exit→Act→World→Prop} {md:Region.Mode} {S:World→Prop} {hd:Nat→Bool}
theorem wpAnyF_first {i:Nat}{oi:Oper}{v:Value}(hi:ops[i]? =some oi)(hhd:hd i=false)(hsel:∀(j:Nat) (o:Oper) cs b,ops[j]? =some o→o.op≠.select cs b) (hQ:∀c a w,Q (.panic c) (a.put oi.dst v) w→Q (.panic c) a w):
 ∀(fuel:Nat) (listed:Array Bool) (a:Act) (w:World),(∀j oj,ops[j]? =some oj→j≠i→listed.getD j true=false→(∀e∈oj.after,Region.binds md e=true→e.on≠i)→oi.apart ops oj=true)→ i∈Region.ready md ops listed→YieldsIf P ops (fun _=>True) oi v a→ wpAnyD P md ops Q S hd fuel (listed.setIfInBounds i true) (a.put oi.dst v) w→wpAnyD P md ops Q S hd (fuel+1) listed a w:=by
 intro fuel;induction fuel with
 |zero=>
  intro listed a w _ hr hy H;refine⟨fun h=>(by rw[h] at hr;cases hr),fun j hj=>?_⟩;by_cases hji:j=i
  ·subst hji;exact hy.wpOp hi trivial ⟨fun h=>(by rw[hhd] at h;cases h),H⟩
  ·have:=ready_mono hj hji;rw[H.1] at this;cases this
 |succ fuel ih=>
  intro listed a w hfree hr hy H;refine⟨fun h=>(by rw[h] at hr;cases hr),fun j hj=>?_⟩;by_cases hji:j=i
  ·subst hji;exact hy.wpOp hi trivial ⟨fun h=>(by rw[hhd] at h;cases h),H⟩
  ·have h1:=H.2 j (ready_mono hj hji);obtain⟨hjun,oj,hoj,hall⟩:=mem_ready.1 hj
   have hnot:∀e∈oj.after,Region.binds md e=true→e.on≠i:=fun e he hb heq=>by
    have h1:=hall e he hb;have h0:=(mem_ready.1 hr).1;rw[heq] at h1;rcases Nat.lt_or_ge i listed.size with h'|h'
    ·simp[h'] at h0 h1;rw[h0] at h1;cases h1
    ·simp[Array.getElem?_eq_none h'] at h1
   have h2:=wpOp_putIf hoj (hfree j oj hoj hji hjun hnot) (fun cs b=>hsel i oi cs b hi) (fun cs b=>hsel j oj cs b hoj) hQ hy h1;have hfree':∀k ok,ops[k]? =some ok→k≠i→(listed.setIfInBounds j true).getD k true=false→ (∀e∈ok.after,Region.binds md e=true→e.on≠i)→oi.apart ops ok=true:=fun k ok hk hki hun hno=>by
    refine hfree k ok hk hki ?_ hno;by_cases hjk:j=k
    ·subst hjk;exact hjun
    ·rw[Go.getD_set_ne true hjk] at hun;exact hun
   refine wpOp_mono (fun a' w' h3=>⟨h3.2.1,ih (listed.setIfInBounds j true) a' w' hfree' (ready_mono hr (Ne.symm hji)) h3.1 ?_⟩) h2;rw[Array.setIfInBounds_comm _ _ hji];exact h3.2.2
theorem wpAnyF_take {i:Nat}{oi:Oper}{v:Value}{fuel:Nat}{listed:Array Bool}{a:Act}{w:World}(hi:ops[i]? =some oi)(hhd:hd i=false) (hs:Region.noSelect ops=true) (hf:Region.free md ops listed i=true) (hr:(Region.ready md ops listed).contains i=true) (hQ:∀c a w,Q (.panic c) (a.put oi.dst v) w→Q (.panic c) a w) (hw:Region.wanted oi (yielded ops a.tmps)=true) (hy:∀w,(execOp a.eval oi).run P w=.ok (.value v) w) (h:wpAnyD P md ops Q S hd fuel (listed.setIfInBounds i true) (a.put oi.dst v) w):wpAnyD P md ops Q S hd (fuel+1) listed a w:=
 wpAnyF_first hi hhd (Region.noSelect_spec hs) hQ fuel listed a w (Region.free_spec hi hf) (by simpa using hr) (Or.inl ⟨hw,fun w _=>hy w⟩) h
theorem tF (i:Nat)(oi:Oper)(v:Value){fuel:Nat}{listed:Array Bool}{a:Act}{w:World}(hi:ops[i]? =some oi)(hy:∀w,(execOp a.eval oi).run P w=.ok (.value v) w) (h:wpAnyD P md ops Q S hd fuel (listed.setIfInBounds i true) (a.put oi.dst v) w) (hb:(!hd i&&Region.noSelect ops&&Region.free md ops listed i&&(Region.ready md ops listed).contains i)=true:=by kernel_rfl) (hw:Region.wanted oi (yielded ops a.tmps)=true:=by rfl) (hQ:∀c a w,Q (.panic c) (a.put oi.dst v) w→Q (.panic c) a w:=by first|exact fun _ _ _ h=>h|exact fun _ _ _ h=>nomatch h.1):wpAnyD P md ops Q S hd (fuel+1) listed a w:=by
 simp only[Bool.and_eq_true,Bool.not_eq_true'] at hb;exact wpAnyF_take hi hb.1.1.1 hb.1.1.2 hb.1.2 hb.2 hQ hw hy h
theorem wpAnyG_first {i:Nat}{oi:Oper}{v:Value}(hi:ops[i]? =some oi)(hsel:∀(j:Nat) (o:Oper) cs b,ops[j]? =some o→o.op≠.select cs b) (hQ:∀c a w,Q (.panic c) (a.put oi.dst v) w→Q (.panic c) a w):
 ∀(fuel:Nat) (listed:Array Bool) (a:Act) (w:World),Closed md ops listed→(∀(j:Nat) (oj:Oper),ops[j]? =some oj→j≠i→listed.getD j true=false→hd j=false→∃f,Qbh md ops i f j=true)→ (∀j oj,ops[j]? =some oj→j≠i→listed.getD j true=false→(∀e∈oj.after,Region.binds md e=true→e.on≠i)→oi.apart ops oj=true)→ i∈Region.ready md ops listed→YieldsIf P ops S oi v a→S w→ wpAnyD P md ops Q S hd fuel (listed.setIfInBounds i true) (a.put oi.dst v) w→wpAnyD P md ops Q S hd (fuel+1) listed a w:=by
 intro fuel;induction fuel with
 |zero=>
  intro listed a w _ _ _ hr hy hS H;refine⟨fun h=>(by rw[h] at hr;cases hr),fun j hj=>?_⟩;by_cases hji:j=i
  ·subst hji;exact hy.wpOp hi hS ⟨fun _=>hS,H⟩
  ·have:=ready_mono hj hji;rw[H.1] at this;cases this
 |succ fuel ih=>
  intro listed a w hcl hcov hfree hr hy hS H;refine⟨fun h=>(by rw[h] at hr;cases hr),fun j hj=>?_⟩;by_cases hji:j=i
  ·subst hji;exact hy.wpOp hi hS ⟨fun _=>hS,H⟩
  ·have h1:=H.2 j (ready_mono hj hji);obtain⟨hjun,oj,hoj,hall⟩:=mem_ready.1 hj
   have hnot:∀e∈oj.after,Region.binds md e=true→e.on≠i:=fun e he hb heq=>by
    have h1:=hall e he hb;have h0:=(mem_ready.1 hr).1;rw[heq] at h1;rcases Nat.lt_or_ge i listed.size with h'|h'
    ·simp[h'] at h0 h1;rw[h0] at h1;cases h1
    ·simp[Array.getElem?_eq_none h'] at h1
   have hhd:hd j=true:=by
    cases hh:hd j with
    |true=>rfl
    |false=>
     obtain⟨f,hf⟩:=hcov j oj hoj hji hjun hh;have hl:=Qby hcl f j hf (QcX hj);have h0:=(mem_ready.1 hr).1;rcases Nat.lt_or_ge i listed.size with h'|h'
     ·simp[h'] at h0 hl;rw[h0] at hl;cases hl
     ·simp[Array.getElem?_eq_none h'] at hl
   have h2:=wpOp_putIf hoj (hfree j oj hoj hji hjun hnot) (fun cs b=>hsel i oi cs b hi) (fun cs b=>hsel j oj cs b hoj) hQ hy h1;have hfree':∀k ok,ops[k]? =some ok→k≠i→(listed.setIfInBounds j true).getD k true=false→ (∀e∈ok.after,Region.binds md e=true→e.on≠i)→oi.apart ops ok=true:=fun k ok hk hki hun hno=>by
    refine hfree k ok hk hki ?_ hno;by_cases hjk:j=k
    ·subst hjk;exact hjun
    ·rw[Go.getD_set_ne true hjk] at hun;exact hun
   have hcov':∀(k:Nat) (ok:Oper),ops[k]? =some ok→k≠i→(listed.setIfInBounds j true).getD k true=false→hd k=false→∃f,Qbh md ops i f k=true:=fun k ok hk hki hun hno=>by
    refine hcov k ok hk hki ?_ hno;by_cases hjk:j=k
    ·subst hjk;exact hjun
    ·rw[Go.getD_set_ne true hjk] at hun;exact hun
   refine wpOp_mono (fun a' w' h3=>⟨fun _=>h3.2.1 hhd,ih (listed.setIfInBounds j true) a' w' (hcl.set hj) hcov' hfree' (ready_mono hr (Ne.symm hji)) h3.1 (h3.2.1 hhd) ?_⟩) h2;rw[Array.setIfInBounds_comm _ _ hji];exact h3.2.2
def coversG (md:Region.Mode)(ops:Array Oper)(hd:Nat→Bool)(i:Nat)(listed:Array Bool):Bool:=
 (List.range ops.size).all fun j=>j==i||hd j||listed.getD j true||Qbh md ops i ops.size j
theorem coversG_spec {i:Nat}{listed:Array Bool}(h:coversG md ops hd i listed=true):∀(j:Nat) (oj:Oper),ops[j]? =some oj→j≠i→listed.getD j true=false→hd j=false→∃f,Qbh md ops i f j=true:=by
 intro j oj hj hji hl hh;have hlt:j<ops.size:=(Array.getElem?_eq_some_iff.1 hj).1;have:=(List.all_eq_true.1 h) j (List.mem_range.2 hlt);rw[hh,hl] at this;simp only[Bool.or_false,Bool.or_eq_true,beq_iff_eq] at this;rcases this with h|h
 ·exact absurd h hji
 ·exact⟨_,h⟩
theorem wpAnyG_take {i:Nat}{oi:Oper}{v:Value}{fuel:Nat}{listed:Array Bool}{a:Act}{w:World}(hi:ops[i]? =some oi) (hs:Region.noSelect ops=true) (hc:coversG md ops hd i listed=true) (hcl:Qe1 md ops listed=true) (hf:Region.free md ops listed i=true) (hr:(Region.ready md ops listed).contains i=true) (hQ:∀c a w,Q (.panic c) (a.put oi.dst v) w→Q (.panic c) a w) (hw:Region.wanted oi (yielded ops a.tmps)=true) (hy:∀w,S w→(execOp a.eval oi).run P w=.ok (.value v) w) (hS:S w) (h:wpAnyD P md ops Q S hd fuel (listed.setIfInBounds i true) (a.put oi.dst v) w):wpAnyD P md ops Q S hd (fuel+1) listed a w:=
 wpAnyG_first hi (Region.noSelect_spec hs) hQ fuel listed a w (QdI hcl) (coversG_spec hc) (Region.free_spec hi hf) (by simpa using hr) (Or.inl ⟨hw,hy⟩) hS h
theorem tG (i:Nat)(oi:Oper)(v:Value){fuel:Nat}{listed:Array Bool}{a:Act}{w:World}(hi:ops[i]? =some oi)(hy:∀w,S w→(execOp a.eval oi).run P w=.ok (.value v) w)(hS:S w) (h:wpAnyD P md ops Q S hd fuel (listed.setIfInBounds i true) (a.put oi.dst v) w) (hb:(Region.noSelect ops&&coversG md ops hd i listed&&Qe1 md ops listed&&Region.free md ops listed i&&(Region.ready md ops listed).contains i)=true:=by kernel_rfl) (hw:Region.wanted oi (yielded ops a.tmps)=true:=by rfl) (hQ:∀c a w,Q (.panic c) (a.put oi.dst v) w→Q (.panic c) a w:=by first|exact fun _ _ _ h=>h|exact fun _ _ _ h=>nomatch h.1):wpAnyD P md ops Q S hd (fuel+1) listed a w:=by
 simp only[Bool.and_eq_true] at hb;exact wpAnyG_take hi hb.1.1.1.1 hb.1.1.1.2 hb.1.1.2 hb.1.2 hb.2 hQ hw hy hS h
end
abbrev Off (g:Nat)(v:Value):Nat→Prop:=fun b=>g<b∧some b≠v.ownBlock
structure CX (W:World)(g:Nat)(rows:List SC)(l:List SectP)(k:Nat):Prop where
 cs:CS W g rows l k
 vo:∀i (h1:i<rows.length) (h2:i<l.length),i<k→Own W (g+1) 3 rows[i].v1 l[i].vers∧∃A,rows[i].v2=.slice A l[i].texts.length l[i].texts.length
 ap:∀i (h1:i<rows.length) (_h2:i<l.length),i<k→∀j (h3:j<rows.length) (h4:j<l.length),j<k→(i≠j→Rep.R W (Off g rows[i].v1) [rows[j].v1] l[j].vers)∧Rep.R W (Off g rows[i].v1) [rows[j].v2] l[j].texts
section
variable {W W':World} {g:Nat} {rows:List SC} {l:List SectP} {k:Nat}
theorem CX.to (h:CX W g rows l k)(hb:Below W.heap.size W W'):CX W' g rows l k:=
 ⟨h.cs.to hb,fun i h1 h2 hk=>⟨(h.vo i h1 h2 hk).1.below hb,(h.vo i h1 h2 hk).2⟩,fun i h1 h2 hi j h3 h4 hj=>⟨fun hij=>Rep.keep ((h.ap i h1 h2 hi j h3 h4 hj).1 hij) (Kept.all hb),Rep.keep (h.ap i h1 h2 hi j h3 h4 hj).2 (Kept.all hb)⟩⟩
theorem rows_set (h:Own W g 74 (.slice (some ⟨g,0,none⟩) l.length l.length) rows){k:Nat}(hkr:k<rows.length){v1 v2:Value}(o1:v1.oneCell'=true)(o2:v2.oneCell'=true):
 Own ((W.setCell ⟨g,k*4+2,none⟩ v1).setCell ⟨g,k*4+3,none⟩ v2) g 74 (.slice (some ⟨g,0,none⟩) l.length l.length) (rows.set k ⟨rows[k].e,rows[k].f,v1,v2⟩)∧W.grownBy ((W.setCell ⟨g,k*4+2,none⟩ v1).setCell ⟨g,k*4+3,none⟩ v2) (some g):=by
 obtain⟨a1,b1⟩:=h.setg k 2 hkr (show 2<4 by omega) v1 o1 {rows[k] with v1:=v1} (fun es he=>by
  obtain⟨rfl,q1,q2⟩:=he
  exact⟨rfl,o1,q2⟩) (o:=k*4+2) rfl
 have hkr2:k<(rows.set k {rows[k] with v1:=v1}).length:=by rw[List.length_set];exact hkr
 obtain⟨a2,b2⟩:=a1.setg k 3 hkr2 (show 3<4 by omega) v2 o2 ⟨rows[k].e,rows[k].f,v1,v2⟩ (fun es he=>by
  rw[List.getElem_set_self] at he
  obtain⟨rfl,q1,q2⟩:=he
  exact⟨rfl,o1,o2⟩) (o:=k*4+3) rfl
 rw[List.set_set] at a2;exact⟨a2,QdK b1 b2⟩
theorem CX.set {wo:World}(h0:CX wo g rows l k)(hb:Below wo.heap.size wo W)(hg:g<wo.heap.size)(hk:k<l.length){v1 v2:Value}(h1:Own W wo.heap.size 3 v1 l[k].vers)(_hn:l[k].vers.length<9223372036854775808)(h2:Rep.R W (fun b=>wo.heap.size≤b∧some b≠v1.ownBlock) [v2] l[k].texts) (h3:∃A,v2=.slice A l[k].texts.length l[k].texts.length):
 ∃rows',CX ((W.setCell ⟨g,k*4+2,none⟩ v1).setCell ⟨g,k*4+3,none⟩ v2) g rows' l (k+1):=by
 have h:=h0.to hb;have hkr:k<rows.length:=by rw[h.cs.len];exact hk
 have hv1:Rep.R W (fun b=>wo.heap.size≤b) [v1] l[k].vers:=by
  obtain⟨A,c,e,-⟩:=h1.form;subst e;exact QcC h1 rfl (fun b hb=>hb)
 have o1:=Rep.one hv1 v1 (by simp);have o2:=Rep.one h2 v2 (by simp);obtain⟨a2,b3⟩:=rows_set h.cs.own hkr o1 o2;have kp:Kept (fun b=>g<b) W ((W.setCell ⟨g,k*4+2,none⟩ v1).setCell ⟨g,k*4+3,none⟩ v2):=Kept.grown b3 (fun i hi e=>by have h:g<i:=hi;injection e with e;omega);have kp2:Kept (fun b=>b<g) W ((W.setCell ⟨g,k*4+2,none⟩ v1).setCell ⟨g,k*4+3,none⟩ v2):=Kept.grown b3 (fun i hi e=>by have h:i<g:=hi;injection e with e;omega);have kpo:∀{v:Value},Kept (Off g v) W ((W.setCell ⟨g,k*4+2,none⟩ v1).setCell ⟨g,k*4+3,none⟩ v2):=fun i hi hl=>kp i hi.1 hl
 have own1:Own ((W.setCell ⟨g,k*4+2,none⟩ v1).setCell ⟨g,k*4+3,none⟩ v2) (g+1) 3 v1 l[k].vers:=(h1.at_blocks (fun q hq e=>b3.block q hq (by intro e2;injection e2 with e2;have:=(h1.lt q e).1;omega))).re (by omega);refine⟨_,⟨a2,by rw[List.length_set];exact h.cs.len,fun i h3 h4=>?_⟩,fun i h5 h6 hi=>?_,fun i h5 h6 hi j h7 h8 hj=>?_⟩
 ·have h5:i<rows.length:=by rw[h.cs.len];exact h4
  have hf:=h.cs.f i h5 h4;by_cases hik:k=i
  ·subst hik;rw[List.getElem_set_self];exact⟨hf.1,hf.2.1,hf.2.2.1,fun _=>⟨Rep.keep (Rep.mono hv1 (fun b hb _=>by show g<b;have:wo.heap.size≤b:=hb;omega)) kp,Rep.keep (Rep.mono h2 (fun b hb _=>by show g<b;have:=hb.1;omega)) kp⟩,fun h=>absurd h (by omega)⟩
  ·rw[List.getElem_set_ne hik];exact⟨hf.1,hf.2.1,hf.2.2.1,fun hk2=>⟨Rep.keep (hf.2.2.2.1 (by omega)).1 kp,Rep.keep (hf.2.2.2.1 (by omega)).2 kp⟩,fun hk2=>⟨Rep.keep (hf.2.2.2.2 (by omega)).1 kp2,Rep.keep (hf.2.2.2.2 (by omega)).2 kp2⟩⟩
 ·have h7:i<rows.length:=by rw[h.cs.len];exact h6
  by_cases hik:k=i
  ·subst hik;rw[List.getElem_set_self];exact⟨own1,h3⟩
  ·rw[List.getElem_set_ne hik];obtain⟨q1,q2⟩:=h.vo i h7 h6 (by omega);exact⟨q1.at_blocks (fun q hq e=>b3.block q hq (by intro e2;injection e2 with e2;have:=(q1.lt q e).1;omega)),q2⟩
 ·have h9:i<rows.length:=by rw[h.cs.len];exact h6
  have h10:j<rows.length:=(by rw[h.cs.len];exact h8);by_cases hik:k=i
  ·subst hik;rw[List.getElem_set_self];by_cases hjk:k=j
   ·subst hjk;rw[List.getElem_set_self];exact⟨fun h=>absurd rfl h,Rep.keep (Rep.mono h2 (fun b hb _=>⟨by have:=hb.1;omega,hb.2⟩)) kpo⟩
   ·rw[List.getElem_set_ne hjk];have hold:=(h0.cs.f j h10 h8).2.2.2.1 (by omega);have far:∀b,(fun b=>g<b) b→b<wo.heap.size→Off g v1 b:=fun b hb hl=>⟨hb,fun e=>by have:=(h1.lt b e.symm).1;omega⟩
    exact⟨fun _=>Rep.keep (Rep.keep (Rep.mono hold.1 far) (Kept.all hb)) kpo,Rep.keep (Rep.keep (Rep.mono hold.2 far) (Kept.all hb)) kpo⟩
  ·rw[List.getElem_set_ne hik];by_cases hjk:k=j
   ·subst hjk;rw[List.getElem_set_self];have far:∀b,wo.heap.size≤b→Off g rows[i].v1 b:=fun b hb=>⟨by omega,fun e=>by have:=((h0.vo i h9 h6 (by omega)).1.lt b e.symm).2;omega⟩
    exact⟨fun _=>Rep.keep (Rep.mono hv1 (fun b hb _=>far b hb)) kpo,Rep.keep (Rep.mono h2 (fun b hb _=>far b hb.1)) kpo⟩
   ·rw[List.getElem_set_ne hjk];have q:=h.ap i h9 h6 (by omega) j h10 h8 (by omega);exact⟨fun hij=>Rep.keep (q.1 hij) kpo,Rep.keep q.2 kpo⟩
instance:Flat SC:=⟨fun h=>h⟩
theorem CX.kept (h:CX W g rows l l.length)(hk:Kept (fun b=>g≤b) W W'):CX W' g rows l l.length:=by
 have k2:Kept (fun b=>g<b) W W':=hk.mono (fun b hb=>Nat.le_of_lt hb);have k3:∀{v:Value},Kept (Off g v) W W':=hk.mono (fun b hb=>Nat.le_of_lt hb.1);refine⟨⟨h.cs.own.at_blocks (fun q hq e=>hk q (h.cs.own.lt q e).1 hq),h.cs.len,fun i h1 h2=>?_⟩,fun i h1 h2 hi=>?_,fun i h1 h2 hi j h3 h4 hj=>?_⟩
 ·obtain⟨a1,a2,a3,a4,-⟩:=h.cs.f i h1 h2;exact⟨a1,a2,a3,fun hi=>⟨Rep.keep (a4 hi).1 k2,Rep.keep (a4 hi).2 k2⟩,fun hi=>absurd h2 (by omega)⟩
 ·obtain⟨a1,a2⟩:=h.vo i h1 h2 hi;exact⟨a1.at_blocks (fun q hq e=>hk q (by have:=(a1.lt q e).1;omega) hq),a2⟩
 ·have q:=h.ap i h1 h2 hi j h3 h4 hj;exact⟨fun hij=>Rep.keep (q.1 hij) k3,Rep.keep q.2 k3⟩
end
theorem CX.nil {W:World}{g:Nat}(h:Own W g 74 (.slice (some ⟨g,0,none⟩) 0 0) ([]:List SC)):CX W g [] [] 0:=
 ⟨⟨h,rfl,fun _i h1=>absurd h1 (Nat.not_lt_zero _)⟩,fun _i h1=>absurd h1 (Nat.not_lt_zero _),fun _i h1=>absurd h1 (Nat.not_lt_zero _)⟩
end Go.Proofs.YtegaapiocihcpaaGreatDoor
