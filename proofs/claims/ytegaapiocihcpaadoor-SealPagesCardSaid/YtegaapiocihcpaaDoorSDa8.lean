/- Texts of SpC. -/
import Derived.Test.YtegaapiocihcpaaDoorSDa7
import Derived.Deep.Slices
import Derived.Deep.Fields
import Derived.ChangeSame
import Derived.ChangeMaps5
set_option maxHeartbeats 64000000
namespace Go.Proofs.YtegaapiocihcpaaDoor
open Go.RowKit
def hitL (wd:Int)(x:LineP):Bool:=decide (x.fr≤wd∧wd<x.un)
def cntL (wd:Int)(l:List LineP):Nat:=l.countP (hitL wd)
theorem QaO (wd:Int)(a b:List LineP):cntL wd (a++b)=cntL wd a+cntL wd b:=List.countP_append
def lastR (wd:Int):List LineP→Nat
 |[]=>0
 |x::r=>if hitL wd x=true then r.length+1 else lastR wd r
theorem lines_one (wd m first:Int)(ws:List Word)(wl:List Int):∀(es:List Nat) (i:Nat),endsF i ws.length es→cntL wd (Qai ws wl m first i es)=if first+i≤wd∧wd<first+ws.length then 1 else 0
 |[],i,h=>by
  have:i=ws.length:=h;subst this;rw[if_neg (by omega)];rfl
 |e::es,i,h=>by
  obtain⟨h1,h2,h3⟩:=h;rw[Qai];have ih:=lines_one wd m first ws wl es e h3
  unfold cntL at ih ⊢;rw[List.countP_cons,ih];unfold hitL;simp only[decide_eq_true_eq];split<;>split<;>(try split)<;>omega
theorem parts_one (wd m:Int):∀(l:List (List Word)) (first:Int),(∀p∈l,Reg (Qab p) m)→cntL wd (Qaj m first l).flatten=if first≤wd∧wd<first+(tot l:Nat) then 1 else 0
 |[],first,_=>by
  rw[if_neg (by have:tot ([]:List (List Word))=0:=rfl;omega)];rfl
 |p::l,first,h=>by
  rw[Qaj,List.flatten_cons,QaO,parts_one wd m l _ (fun q hq=>h q (by simp[hq]))];unfold setP;rw[lines_one wd m first p _ _ 0 (Qbr (h p (by simp)))];have e:tot (p::l)=p.length+tot l:=(by unfold tot;simp);rw[e];split<;>split<;>(try split)<;>omega
theorem pages_sum (wd:Int)(notes:List (List LineP))(h:Nat)(h4:4≤h):∀(f:Nat) (body queue:List LineP),Qag body notes+queue.length≤f→((setPages notes h f body queue).map fun p=>cntL wd (p.body++p.notes)).sum=cntL wd body+cntL wd (queue++body.flatMap (Qaa notes))
 |0,body,queue,hf=>by
  have hb:body=[]:=by
   cases body with
   |nil=>rfl
   |cons x xs=>rw[Qag,List.map_cons,List.sum_cons] at hf;omega
  have hq:queue=[]:=List.eq_nil_of_length_eq_zero (by omega);subst hb hq;simp[setPages,cntL]
 |f+1,body,queue,hf=>by
  rw[setPages];split
  ·rename_i hn;obtain⟨rfl,rfl⟩:=hn;simp[cntL]
  ·rename_i hn;have hl:=Qc5 notes h h4 body queue hn;obtain⟨k,a,b,c,d,e⟩:=QaW notes h body 0 (min queue.length (h-1)) queue (Nat.min_le_left _ _);dsimp only at hl ⊢;rw[List.map_cons,List.sum_cons,pages_sum wd notes h h4 f _ _ (by omega)];generalize fillP notes h body 0 (min queue.length (h-1)) queue=F at*;have h1:cntL wd body=cntL wd (body.take F.1)+cntL wd (body.drop F.1):=(by rw[←QaO,List.take_append_drop]);have h2:cntL wd F.2.2=cntL wd (F.2.2.take F.2.1)+cntL wd (F.2.2.drop F.2.1):=by rw[←QaO,List.take_append_drop]
   have h3:cntL wd (body.flatMap (Qaa notes))=cntL wd ((body.take F.1).flatMap (Qaa notes))+cntL wd ((body.drop F.1).flatMap (Qaa notes)):=(by rw[←QaO,←List.flatMap_append,List.take_append_drop]);have h4':cntL wd F.2.2=cntL wd queue+cntL wd ((body.take F.1).flatMap (Qaa notes)):=(by rw[d,b,Nat.zero_add,QaO]);simp only[QaO];omega
theorem up_refs (notes:List (List LineP)):∀(j a:Nat),a+j=notes.length→((up (a:Int) j).map (· - 1)).flatMap (fun n=>notes.getD n.toNat [])=(notes.drop a).flatten
 |0,a,h=>by
  rw[up,List.drop_of_length_le (by omega)];rfl
 |j+1,a,h=>by
  have hl:a<notes.length:=(by omega);rw[up,List.map_cons,List.flatMap_cons,show((a:Int)+1)=((a+1:Nat):Int) by omega,up_refs notes j (a+1) (by omega),List.drop_eq_getElem_cons hl,List.flatten_cons];have e:(((a+1:Nat):Int)-1).toNat=a:=(by omega);rw[e,List.getD_eq_getElem?_getD,qG hl];rfl
theorem GText.refs {a b:List (List Word)}(hg:GText a b){m:Int}(hm:500≤m∧m≤2000):(QaA a m).flatMap (Qaa (Qah a b m))=(Qah a b m).flatten:=by
 have hf:=hg.fine
 have h2:(QaA a m).flatMap (·.notes)=(up 0 b.length).map (· - 1):=by
  unfold QaA;rw[Qb0 a 0 (fun p hp=>hf.reg hm.1 hm.2 (by simp[hp])),notesP_seq,hg.seq]
 have h3:(QaA a m).flatMap (Qaa (Qah a b m))=((QaA a m).flatMap (·.notes)).flatMap (fun n=>(Qah a b m).getD n.toNat []):=by
  rw[List.flatMap_assoc];rfl
 rw[h3,h2];have:=up_refs (Qah a b m) b.length 0 (by rw[Nat.zero_add];exact(QaG m b _).symm);rw[List.drop_zero] at this;exact this
theorem GText.once {a b:List (List Word)}(hg:GText a b){m h:Int}(hz:Siz m h)(wd:Int)(h0:0≤wd)(h1:wd<(Go.Proofs.YtegaapiocihcpaaDoor.tot (a++b):Nat)):((Qac a b m h).map fun p=>cntL wd (p.body++p.notes)).sum=1:=by
 have hm:500≤m∧m≤2000:=⟨hz.m1,hz.m2⟩;rw[(hg.pages hm ⟨hz.h1,hz.h2⟩).1];unfold Qar;rw[pages_sum wd _ _ (by have:=hz.h1;omega) _ _ _ (by simp),List.nil_append,hg.refs hm,←QaO];have hf:=hg.fine;have e:QaA a m++(Qah a b m).flatten=(Qaj m 0 (a++b)).flatten:=by
  rw[Qa4,List.flatten_append,Int.zero_add];rfl
 rw[e,parts_one wd m (a++b) 0 (fun p hp=>hf.reg hm.1 hm.2 hp),if_pos (by omega)]
def sumC (e v wd:Int)(l:List CoreP):Nat:=(l.map fun c=>if c.entry=e∧c.ver=v then cntL wd (c.body++c.notes) else 0).sum
theorem QaK (e v wd:Int)(a b:List CoreP):sumC e v wd (a++b)=sumC e v wd a+sumC e v wd b:=by unfold sumC;rw[List.map_append,List.sum_append]
theorem sumC_yes (e v wd:Int)(ps:List PageP):sumC e v wd (ps.map (QbT e v))=(ps.map fun p=>cntL wd (p.body++p.notes)).sum:=by
 unfold sumC;rw[List.map_map];congr 1;apply List.map_congr_left;intro p _;show(if e=e∧v=v then _ else _)=_;rw[if_pos ⟨rfl,rfl⟩];rfl
theorem sumC_no (e v wd e' v':Int)(hne:¬(e'=e∧v'=v)):∀(ps:List PageP),sumC e v wd (ps.map (QbT e' v'))=0
 |[]=>rfl
 |p::ps=>by
  have ih:=sumC_no e v wd e' v' hne ps;unfold sumC at ih ⊢;rw[List.map_cons,List.map_cons,List.sum_cons,ih];show(if e'=e∧v'=v then _ else 0)+0=0;rw[if_neg hne]
theorem sumV_entry (m h e v wd e':Int)(hne:e'≠e):∀(ts:List TextP) (vs:List Int),sumC e v wd (QaI m h e' vs ts)=0
 |[],_=>by simp[QaI,sumC]
 |t::ts,vs=>by rw[QaI,QaK,sumC_no e v wd e' _ (fun hh=>hne hh.1),sumV_entry m h e v wd e' hne ts]
theorem sumV_ver (m h e v wd:Int):∀(ts:List TextP) (vs:List Int),ts.length≤vs.length→v∉vs→sumC e v wd (QaI m h e vs ts)=0
 |[],_,_,_=>by simp[QaI,sumC]
 |t::ts,[],hl,_=>by simp at hl
 |t::ts,x::vs,hl,hv=>by
  rw[QaI,QaK,sumC_no e v wd e _ (fun hh=>hv (by have:=hh.2;simp at this;simp[this])),List.tail_cons,sumV_ver m h e v wd ts vs (by simpa using hl) (fun hh=>hv (by simp[hh]))]
theorem sumV_at (m h e wd:Int):∀(ts:List TextP) (vs:List Int) (k:Nat) (hk:k<ts.length) (hv:k<vs.length),ts.length≤vs.length→vs.Nodup→sumC e vs[k] wd (QaI m h e vs ts)=((Qac ts[k].a ts[k].b m h).map fun p=>cntL wd (p.body++p.notes)).sum
 |t::ts,x::vs,0,hk,hv,hl,hn=>by
  rw[QaI,QaK];show sumC e x wd ((Qac t.a t.b m h).map (QbT e x))+sumC e x wd (QaI m h e vs ts)=_;rw[sumC_yes,sumV_ver m h e x wd ts vs (by simpa using hl) (List.nodup_cons.1 hn).1];rfl
 |t::ts,x::vs,k+1,hk,hv,hl,hn=>by
  have hk':k<ts.length:=(by simpa using hk);have hv':k<vs.length:=(by simpa using hv);rw[QaI,QaK];show sumC e vs[k] wd ((Qac t.a t.b m h).map (QbT e x))+sumC e vs[k] wd (QaI m h e vs ts)=_;rw[sumC_no e _ wd e x (fun hh=>(List.nodup_cons.1 hn).1 (by rw[hh.2];exact List.getElem_mem hv')),Nat.zero_add,sumV_at m h e wd ts vs k hk' hv' (by simpa using hl) (List.nodup_cons.1 hn).2];rfl
theorem Qct (m h e v wd:Int):∀(l:List SectP),(∀s∈l,s.entry≠e)→sumC e v wd (QbS m h l)=0
 |[],_=>rfl
 |s::l,hs=>by
  show sumC e v wd (QaI m h s.entry s.vers s.texts++QbS m h l)=0;rw[QaK,sumV_entry m h e v wd _ (hs s (by simp)),Qct m h e v wd l (fun x hx=>hs x (by simp[hx]))]
theorem Qdh (i j:Nat)(hi:i≤3)(hj:j≤2):(Qbh i j).Nodup:=by
 unfold Qbh;refine List.nodup_cons.2 ⟨fun hm=>?_,?_⟩
 ·obtain⟨k,hk,e⟩:=List.mem_map.1 hm;have:=List.mem_range.1 hk;omega
 ·rw[List.nodup_iff_pairwise_ne,List.pairwise_map];refine List.Pairwise.imp_of_mem (R:=(· < ·)) (fun {a b} _ _ hab=>?_) List.pairwise_lt_range;omega
theorem GBk.once {m h:Int}{l:List SectP}(H:GBk m h l){i k:Nat}(hi:i<l.length)(hk:k<l[i].texts.length)(hv:k<l[i].vers.length)(wd:Int)(h0:0≤wd)(h1:wd<(tot (l[i].texts[k].a++l[i].texts[k].b):Nat)):sumC l[i].entry (l[i].vers[k]) wd ((Qaf m h l).map PageP.core)=1:=by
 obtain⟨f,hf⟩:=H.s;have hn:=H.n;have hent:∀(a:Nat) (ha:a<l.length),∃d:Nat,d≤1∧l[a].entry=2*(a:Int)+d:=fun a ha=>(hf a ha).1
 have hsp:l=l.take i++l[i]::l.drop (i+1):=by rw[←List.drop_eq_getElem_cons hi,List.take_append_drop]
 rw[Qb3];have hc:QbS m h l=QbS m h (l.take i)++(QaI m h l[i].entry l[i].vers l[i].texts++QbS m h (l.drop (i+1))):=by
  (conv=>lhs;rw[hsp]);unfold QbS;rw[List.flatMap_append,List.flatMap_cons]
 rw[hc,QaK,QaK];obtain⟨d,hd,he⟩:=hent i hi
 rw[Qct m h _ _ wd (l.take i) (fun s hs=>by
  obtain⟨a,ha,rfl⟩:=List.getElem_of_mem hs
  rw[qK] at ha
  rw[List.getElem_take]
  obtain⟨d',hd',he'⟩:=hent a (by omega)
  omega),
  Qct m h _ _ wd (l.drop (i+1)) (fun s hs=>by
   obtain⟨a,ha,rfl⟩:=List.getElem_of_mem hs
   rw[List.length_drop] at ha
   rw[List.getElem_drop]
   obtain⟨d',hd',he'⟩:=hent (i+1+a) (by omega)
   omega)]
 obtain⟨-,-,j,hj,-,hvs,htl,hg⟩:=hf i hi;rw[sumV_at m h _ wd _ _ k hk hv (by rw[hvs,QaR,htl];omega) (by rw[hvs];exact Qdh i j (by omega) hj)];rw[(hg _ (List.getElem_mem hk)).once H.siz wd h0 h1]
def OrdL (l:List LineP):Prop:=l.Pairwise fun x y=>x.un≤y.fr
def InW (lo hi:Int)(l:List LineP):Prop:=∀x∈l,lo≤x.fr∧x.fr<x.un∧x.un≤hi
def Qap (f:Int→Nat)(a b:Int):Nat:=((List.range (b-a).toNat).map fun(i:Nat)=>f (a+i)).sum
theorem QaL (f:Int→Nat){a b c:Int}(h1:a≤b)(h2:b≤c):Qap f a c=Qap f a b+Qap f b c:=by
 unfold Qap;obtain⟨m,hm⟩:=Int.eq_ofNat_of_zero_le (show 0≤b-a by omega);obtain⟨n,hn⟩:=Int.eq_ofNat_of_zero_le (show 0≤c-b by omega);rw[show(c-a).toNat=m+n by omega,show(b-a).toNat=m by omega,show(c-b).toNat=n by omega,List.range_add,List.map_append,List.sum_append,List.map_map];congr 2;refine List.map_congr_left fun i _=>?_
 show f (a+((m+i:Nat):Int))=f (b+(i:Int));congr 1;omega
theorem Qbn (f:Int→Nat)(a:Int):Qap f a a=0:=by unfold Qap;rw[Int.sub_self];rfl
theorem Qcs (f:Int→Nat){a b:Int}(h:∀x,a≤x→x<b→f x=0):Qap f a b=0:=by
 unfold Qap;refine List.sum_eq_zero_iff_forall_eq_nat.2 fun y hy=>?_
 obtain⟨i,hi,rfl⟩:=List.mem_map.1 hy;have:=List.mem_range.1 hi;exact h _ (by omega) (by omega)
theorem sumWd_one (f:Int→Nat){a b:Int}(hab:a≤b)(h:∀x,a≤x→x<b→f x=1):((Qap f a b:Nat):Int)=b-a:=by
 unfold Qap
 have e:((List.range (b-a).toNat).map fun(i:Nat)=>f (a+i))=List.replicate (b-a).toNat 1:=by
  refine List.eq_replicate_iff.2 ⟨by simp,fun y hy=>?_⟩;obtain⟨i,hi,rfl⟩:=List.mem_map.1 hy;have:=List.mem_range.1 hi;exact h _ (by omega) (by omega)
 rw[e,List.sum_replicate_nat];omega
def QbQ (f:Int→Nat)(l:List LineP):Nat:=(l.map fun x=>Qap f x.fr x.un).sum
theorem Qbg (f:Int→Nat)(a b:List LineP):QbQ f (a++b)=QbQ f a+QbQ f b:=by unfold QbQ;rw[List.map_append,List.sum_append]
theorem lines_ord (m first:Int)(ws:List Word)(wl:List Int):∀(es:List Nat) (i:Nat),endsF i ws.length es→OrdL (Qai ws wl m first i es)∧InW (first+i) (first+ws.length) (Qai ws wl m first i es)∧i≤ws.length
 |[],i,h=>by
  have:i=ws.length:=h;exact⟨List.Pairwise.nil,fun x hx=>absurd hx (by simp[Qai]),by omega⟩
 |e::es,i,h=>by
  obtain⟨h1,h2,h3⟩:=h;obtain⟨k1,k2,k3⟩:=lines_ord m first ws wl es e h3
  rw[Qai];refine⟨List.pairwise_cons.2 ⟨fun y hy=>(k2 y hy).1,k1⟩,fun x hx=>?_,by omega⟩;rcases List.mem_cons.1 hx with rfl|hx
  ·dsimp only;omega
  ·have:=k2 x hx;omega
theorem lines_sum (f:Int→Nat)(m first:Int)(ws:List Word)(wl:List Int):∀(es:List Nat) (i:Nat),endsF i ws.length es→QbQ f (Qai ws wl m first i es)=Qap f (first+i) (first+ws.length)
 |[],i,h=>by
  have:i=ws.length:=h;subst this;rw[Qbn];rfl
 |e::es,i,h=>by
  obtain⟨h1,h2,h3⟩:=h;have ih:=lines_sum f m first ws wl es e h3
  rw[Qai,QaL f (show first+(i:Int)≤first+(e:Int) by omega) (show first+(e:Int)≤first+(ws.length:Int) by omega),←ih];rfl
theorem QdC (m:Int):∀(l:List (List Word)) (first:Int),(∀p∈l,Reg (Qab p) m)→OrdL (Qaj m first l).flatten∧InW first (first+(tot l:Nat)) (Qaj m first l).flatten
 |[],first,_=>⟨List.Pairwise.nil,fun x hx=>absurd hx (by simp[Qaj])⟩
 |p::l,first,h=>by
  rw[Qaj,List.flatten_cons];obtain⟨k1,k2⟩:=QdC m l (first+p.length) fun q hq=>h q (by simp[hq])
  have j:=lines_ord m first p (Qab p) _ 0 (Qbr (h p (by simp)))
  have e:tot (p::l)=p.length+tot l:=(by unfold tot;simp);rw[e];unfold setP;refine⟨List.pairwise_append.2 ⟨j.1,k1,fun x hx y hy=>?_⟩,fun x hx=>?_⟩
  ·have a1:=j.2.1 x hx;have a2:=k2 y hy;omega
  ·rcases List.mem_append.1 hx with hx|hx
   ·have:=j.2.1 x hx;omega
   ·have:=k2 x hx;omega
theorem QcZ (f:Int→Nat)(m:Int):∀(l:List (List Word)) (first:Int),(∀p∈l,Reg (Qab p) m)→QbQ f (Qaj m first l).flatten=Qap f first (first+(tot l:Nat))
 |[],first,_=>by
  rw[show(tot ([]:List (List Word)))=0 from rfl,show first+((0:Nat):Int)=first by omega,Qbn];rfl
 |p::l,first,h=>by
  have e:tot (p::l)=p.length+tot l:=(by unfold tot;simp);rw[Qaj,List.flatten_cons,Qbg,QcZ f m l _ fun q hq=>h q (by simp[hq])];unfold setP;rw[lines_sum f m first p _ _ 0 (Qbr (h p (by simp))),e,QaL f (a:=first) (b:=first+(p.length:Int)) (by omega) (by omega)];congr 2
  ·omega
  ·omega
theorem pages_body (notes:List (List LineP))(h:Nat)(h4:4≤h):∀(f:Nat) (body queue:List LineP),Qag body notes+queue.length≤f→(setPages notes h f body queue).flatMap (·.body)=body∧(setPages notes h f body queue).flatMap (·.notes)=queue++body.flatMap (Qaa notes)
 |0,body,queue,hf=>by
  have hb:body=[]:=by
   cases body with
   |nil=>rfl
   |cons x xs=>rw[Qag,List.map_cons,List.sum_cons] at hf;omega
  have hq:queue=[]:=List.eq_nil_of_length_eq_zero (by omega);subst hb hq;simp[setPages]
 |f+1,body,queue,hf=>by
  rw[setPages];split
  ·rename_i hn;obtain⟨rfl,rfl⟩:=hn;simp
  ·rename_i hn;have hl:=Qc5 notes h h4 body queue hn;obtain⟨k,a,b,c,d,e⟩:=QaW notes h body 0 (min queue.length (h-1)) queue (Nat.min_le_left _ _);dsimp only at hl ⊢;rw[List.flatMap_cons,List.flatMap_cons];generalize fillP notes h body 0 (min queue.length (h-1)) queue=F at*;obtain⟨h1,h2⟩:=pages_body notes h h4 f (body.drop F.1) (F.2.2.drop F.2.1) (by omega);rw[h1,h2];refine⟨List.take_append_drop _ _,?_⟩;dsimp only;rw[←List.append_assoc,List.take_append_drop,d,b,Nat.zero_add,List.append_assoc,←List.flatMap_append,List.take_append_drop]
theorem Qcu {a b:List (List Word)}(hg:GText a b){m h:Int}(hz:Siz m h):
 OrdL ((Qac a b m h).flatMap (·.body))∧OrdL ((Qac a b m h).flatMap (·.notes))∧InW 0 (tot a:Nat) ((Qac a b m h).flatMap (·.body))∧InW (tot a:Nat) (tot (a++b):Nat) ((Qac a b m h).flatMap (·.notes))∧
 ∀f,QbQ f ((Qac a b m h).flatMap (·.body))+QbQ f ((Qac a b m h).flatMap (·.notes))=Qap f 0 (tot (a++b):Nat):=by
 have hm:500≤m∧m≤2000:=⟨hz.m1,hz.m2⟩;have hf:=hg.fine;rw[(hg.pages hm ⟨hz.h1,hz.h2⟩).1];unfold Qar;obtain⟨h1,h2⟩:=pages_body (Qah a b m) h.toNat (by have:=hz.h1;omega) (Qag (QaA a m) (Qah a b m)) (QaA a m) [] (by simp);rw[h1,h2,List.nil_append,hg.refs hm];have ha:∀p∈a,Reg (Qab p) m:=fun p hp=>hf.reg hm.1 hm.2 (by simp[hp])
 have hb:∀p∈b,Reg (Qab p) m:=fun p hp=>hf.reg hm.1 hm.2 (by simp[hp])
 have e:tot (a++b)=tot a+tot b:=by unfold tot;simp
 obtain⟨k1,k2⟩:=QdC m a 0 ha;obtain⟨k3,k4⟩:=QdC m b (tot a:Nat) hb;rw[Int.zero_add] at k2;rw[e];refine⟨k1,k3,k2,fun x hx=>by have:=k4 x hx;omega,fun f=>?_⟩;have s1:=QcZ f m a 0 ha;have s2:=QcZ f m b (tot a:Nat) hb;show QbQ f (Qaj m 0 a).flatten+QbQ f (Qaj m (tot a:Nat) b).flatten=_;rw[s1,s2,Int.zero_add,←QaL f (by omega) (by omega)];congr 1;all_goals omega
structure LB (w:World)(b:Nat)(A:Option Addr)(c:Nat)(l:List SectP):Prop where
 bx:ABox w b 25 [.int .i64 500,.int .i64 4,.slice A l.length c]
 sm:SM w A c l
structure LM (m h:Int)(w:World)(b:Nat)(A:Option Addr)(c:Nat)(l:List SectP):Prop where
 bx:ABox w b 25 [.int .i64 m,.int .i64 h,.slice A l.length c]
 sm:SM w A c l
theorem LM.to {m h:Int}{w w':World}{b c:Nat}{A:Option Addr}{l:List SectP}(H:LM m h w b A c l)(hb:Below w.heap.size w w'):LM m h w' b A c l:=⟨H.bx.to hb,H.sm.to hb⟩
theorem LM.fresh {m h:Int}{w:World}{A:Option Addr}{c:Nat}{l:List SectP}(H:SM w A c l):LM m h (w.alloc (.cells #[.int .i64 m,.int .i64 h,.slice A l.length c] 25)) w.heap.size A c l∧Below w.heap.size w (w.alloc (.cells #[.int .i64 m,.int .i64 h,.slice A l.length c] 25)):=
 have hb:Below w.heap.size w (w.alloc (.cells #[.int .i64 m,.int .i64 h,.slice A l.length c] 25)):=bR.alloc nL _
 ⟨⟨heap_alloc_new w _,H.to hb⟩,hb⟩
structure LT (w:World)(x:Nat)(A:Option Addr)(c:Nat)(B:Option Addr)(d:Nat)(a b:List (List Word)):Prop where
 bx:ABox w x 38 [.slice A a.length c,.slice B b.length d]
 tm:TM w A c B d a b
theorem pageS_at {w:World}{S:Nat→Prop}{A:Option Addr}{c:Nat}{l:List PageP}(h:Sl w S A c l){k:Nat}(hk:k<l.length):
 ∃b o A1 c1 A2 c2,A=some ⟨b,o,none⟩∧S b∧b<w.heap.size∧w.cell? ⟨b,o+k*6,none⟩=some (.int .i64 l[k].num)∧w.cell? ⟨b,o+k*6+1,none⟩=some (.int .i64 l[k].suf)∧w.cell? ⟨b,o+k*6+2,none⟩=some (.int .i64 l[k].entry)∧ w.cell? ⟨b,o+k*6+3,none⟩=some (.int .i64 l[k].ver)∧w.cell? ⟨b,o+k*6+4,none⟩=some (.slice A1 l[k].body.length c1)∧w.cell? ⟨b,o+k*6+5,none⟩=some (.slice A2 l[k].notes.length c2)∧Sl w S A1 c1 l[k].body∧Sl w S A2 c2 l[k].notes:=by
 obtain⟨b,o,va,vb,rfl,hb,hlt,h0,h1,h2,h3,h4,h5,⟨A1,c1,e1,r1,-⟩,⟨A2,c2,e2,r2,-⟩⟩:=page_at h hk;cases e1;cases e2;exact⟨b,o,A1,c1,A2,c2,rfl,hb,hlt,h0,h1,h2,h3,h4,h5,r1,r2⟩
theorem QbN (wd:Int):∀(r:List LineP) (x:LineP),lastR wd (r++[x])=if lastR wd r=0 then(if hitL wd x=true then 1 else 0) else lastR wd r+1
 |[],x=>by simp[lastR]
 |y::r,x=>by
  rw[List.cons_append,lastR,lastR,QbN wd r x];by_cases hy:hitL wd y=true
  ·rw[if_pos hy,if_pos hy,if_neg (by omega),qA,List.length_singleton]
  ·rw[if_neg hy,if_neg hy]
theorem Qdb (wd:Int):∀(l:List LineP),cntL wd l=0→lastR wd l.reverse=0∧QcO l wd=none
 |[],_=>⟨rfl,rfl⟩
 |x::xs,h=>by
  unfold cntL at h;rw[List.countP_cons] at h;have hx:¬hitL wd x=true:=fun e=>by rw[if_pos e] at h;omega
  obtain⟨h1,h2⟩:=Qdb wd xs (by unfold cntL;omega);refine⟨by rw[List.reverse_cons,QbN,h1,if_pos rfl,if_neg hx],?_⟩;unfold QcO at h2 ⊢;rw[List.findIdx?_cons,if_neg (show ¬(decide (x.fr≤wd∧wd<x.un))=true from hx),h2];rfl
theorem last_one (wd:Int):∀(l:List LineP),cntL wd l=1→∃i,QcO l wd=some i∧lastR wd l.reverse=i+1
 |[],h=>by simp[cntL] at h
 |x::xs,h=>by
  unfold cntL at h;rw[List.countP_cons] at h;by_cases hx:hitL wd x=true
  ·rw[if_pos hx] at h;obtain⟨h1,-⟩:=Qdb wd xs (by unfold cntL;omega);refine⟨0,?_,by rw[List.reverse_cons,QbN,h1,if_pos rfl,if_pos hx]⟩;unfold QcO;rw[List.findIdx?_cons,if_pos (show(decide (x.fr≤wd∧wd<x.un))=true from hx)]
  ·rw[if_neg hx] at h;obtain⟨i,h1,h2⟩:=last_one wd xs (by unfold cntL;omega);refine⟨i+1,?_,by rw[List.reverse_cons,QbN,h2,if_neg (by omega)]⟩;unfold QcO at h1 ⊢;rw[List.findIdx?_cons,if_neg (show ¬(decide (x.fr≤wd∧wd<x.un))=true from hx),h1];rfl
def sumP (e v wd:Int)(ps:List PageP):Nat:=sumC e v wd (ps.map PageP.core)
theorem sumP_cons (e v wd:Int)(p:PageP)(ps:List PageP):sumP e v wd (p::ps)=(if p.entry=e∧p.ver=v then cntL wd (p.body++p.notes) else 0)+sumP e v wd ps:=rfl
theorem lines28_any (nu su en ve:Int)(A B:Option Addr)(c d:Nat)(a b:List LineP)(w:World)(ha:Sl w (fun b=>b<w.heap.size) A c a)(hb:Sl w (fun b=>b<w.heap.size) B d b)(hla:a.length≤1048576)(hlb:b.length≤1048576):
 Calls Tryd.prog 10 #[.agg #[.int .i64 nu,.int .i64 su,.int .i64 en,.int .i64 ve,.slice A a.length c,.slice B b.length d]] w fun e w'=>∃v,e=.returned v∧Own w' w.heap.size 49 v (a++b)∧Below w.heap.size w w':=by
 have hb0:=(Below.refl w.heap.size w).alloc nL (.cells #[.int .i64 nu,.int .i64 su,.int .i64 en,.int .i64 ve,.slice A a.length c,.slice B b.length d] 47);have hx0:ABox (w.alloc (.cells #[.int .i64 nu,.int .i64 su,.int .i64 en,.int .i64 ve,.slice A a.length c,.slice B b.length d] 47)) w.heap.size 47 [.int .i64 nu,.int .i64 su,.int .i64 en,.int .i64 ve,.slice A a.length c,.slice B b.length d]:=heap_alloc_new w _;have ha0:=ha.to hb0;have hbb0:=hb.to hb0;have hz0:(w.alloc (.cells #[.int .i64 nu,.int .i64 su,.int .i64 en,.int .i64 ve,.slice A a.length c,.slice B b.length d] 47)).heap.size=w.heap.size+1:=by simp
 go_enter Tryd.func10,Tryd.ntmps10;go_upto_region 1 with(fail);generalize w.alloc (.cells #[.int .i64 nu,.int .i64 su,.int .i64 en,.int .i64 ve,.slice A a.length c,.slice B b.length d] 47)=w0 at*;have HB0:=Lh hb0;have HX0:=Lh hx0;have HA:=Lh ha0;have HBB:=Lh hbb0;have HZ:=Lh hz0;have x4:=hx0.cell 4 rfl;have hzl:w.heap.size≤w0.heap.size:=by omega
 clear hb0 hx0 ha0 hbb0 hz0 ha hb
 go_upto_region 3 with(first|(at_builtin;refine QaF (α:=LineP) _ rfl (.tmp 4) (.tmp 6) 42 rfl w0.heap.size 49 (.agg #[.int .i64 0,.int .i64 0,.slice none 0 0,.slice none 0 0]) 64 Tryd.underlying42 Qbm rfl (by decide) (.slice none 0 0) [] rfl (Own.nil _ _ _) A c a.length a rfl rfl (fun b=>b<w0.heap.size) HA.out (by intro i _ _ e;cases e) (by first|omega|(simp;done)|(simp;omega)) (by first|omega|(simp;done)|(simp;omega)) (by first|omega|(simp;done)|(simp;omega)) ?_;intro v2 w2 hown2 hg2 hat2;rw[List.nil_append] at hown2;have HO2:=Lh hown2;have HG2:=Lh (show Below w0.heap.size w0 w2 from⟨hg2.os,hg2.tape,hg2.output,hg2.size,fun i hi=>hg2.block i hi (by simp[Value.ownBlock])⟩);clear hown2 hg2 hat2 x4)|fail)
 have x5:=(HX0.out.to HG2.out).cell 5 rfl;obtain⟨A2,c2,rfl,_⟩:=HO2.out.form
 go_wp2_with (first|(at_builtin;refine QaF (α:=LineP) _ rfl (.tmp 8) (.tmp 10) 42 rfl w0.heap.size 49 (.agg #[.int .i64 0,.int .i64 0,.slice none 0 0,.slice none 0 0]) 64 Tryd.underlying42 Qbm rfl (by decide) _ a rfl HO2.out B d b.length b rfl rfl (fun b=>b<w0.heap.size) (HBB.out.keep (Kept.all HG2.out) HG2.out.size) (by intro i (hi:i<w0.heap.size) _ e;have:=(HO2.out.lt i e.symm).1;omega) (by first|omega|(simp;done)|(simp;omega)) (by first|omega|(simp;done)|(simp;omega)) HG2.out.size ?_;intro v3 w3 hown3 hg3 hat3;have HO3:=Lh hown3;have HB3:=Lh (HB0.out.trans ((QaE HG2.out HO2.out HG2.out.size hg3).mono hzl));clear hown3 hg3 hat3 x5)|fail)
 go_ret;exact⟨_,rfl,HO3.out.re hzl,HB3.out⟩
theorem Qdp (m h e:Int):∀(ts:List TextP) (vs:List Int) (c:CoreP),c∈QaI m h e vs ts→c.body.length≤1048576∧c.notes.length≤1048576
 |[],vs,c,hc=>by simp[QaI] at hc
 |t::ts,vs,c,hc=>by
  rw[QaI] at hc;rcases List.mem_append.1 hc with h1|h1
  ·obtain⟨p,hp,rfl⟩:=List.mem_map.1 h1;exact Qcj t.a t.b m h p hp
  ·exact Qdp m h e ts vs.tail c h1
theorem pages_smallB (m h:Int)(l:List SectP):∀p∈Qaf m h l,SmallP p:=by
 intro p hp;have hc:p.core∈QbS m h l:=by rw[←Qb3];exact List.mem_map_of_mem hp
 have hs:∀c∈QbS m h l,c.body.length≤1048576∧c.notes.length≤1048576:=by
  intro c hc;obtain⟨s,-,hs⟩:=List.mem_flatMap.1 hc;exact Qdp m h s.entry s.texts s.vers c hs
 exact hs _ hc
theorem QbL {e v wd:Int}:∀{ps:List PageP},sumP e v wd ps=1→∃r,Qal e v wd ps=some r
 |[],h=>by simp[sumP,sumC] at h
 |p::ps,h=>by
  rw[sumP_cons] at h;rw[Qal];by_cases hm:p.entry=e∧p.ver=v
  ·rw[if_pos hm] at h ⊢;rcases Nat.eq_zero_or_pos (cntL wd (p.body++p.notes)) with h0|h0
   ·rw[(Qdb wd _ h0).2];exact QbL (by omega)
   ·obtain⟨i,h1,-⟩:=last_one wd (p.body++p.notes) (by omega);rw[h1];exact⟨_,rfl⟩
  ·rw[if_neg hm] at h ⊢;exact QbL (by omega)
def QcI (f:Nat→Int):Nat→Int
 |0=>0
 |n+1=>if QcI f n≠0 then QcI f n else f n
theorem Qcb {f:Nat→Int}:∀{n:Nat},(∀j,j<n→f j=0)→QcI f n=0
 |0,_=>rfl
 |n+1,h=>by rw[QcI,if_neg (by rw[Qcb fun j hj=>h j (by omega)];simp),h n (by omega)]
theorem Qcc {f:Nat→Int}:∀{n:Nat},QcI f n=0→∀j,j<n→f j=0
 |0,_,j,hj=>absurd hj (Nat.not_lt_zero _)
 |n+1,h,j,hj=>by
  rw[QcI] at h;split at h
  ·rename_i h1;exact absurd h h1
  ·rename_i h1;have h2:=Qcc (Decidable.not_not.1 h1);rcases Nat.lt_or_ge j n with h3|h3
   ·exact h2 j h3
   ·obtain rfl:j=n:=by omega
    exact h
def verX (m h:Int)(vs:List Int)(q:Nat)(v:Int)(t:TextP):Int:=if ¬(0≤v∧v≤2147483647) then 5 else if v∈vs.take q then 4 else QcE m h t.a t.b
def versE (m h:Int)(s:SectP):Int:=QcI (fun q=>verX m h s.vers q (s.vers.getD q 0) (s.texts.getD q ⟨[],[]⟩)) s.vers.length
def openB (l:List SectP)(k:Nat):Bool:=(l.take k).any fun x=> !x.frozen
def secX (m h:Int)(l:List SectP)(k:Nat)(s:SectP):Int:=
 if ¬(0≤s.entry∧s.entry≤65535) then 5 else if findP l s.entry<(k:Int) then 4 else if s.frozen=true∧openB l k=true then 12
 else if s.vers.length=0∨s.vers.length≠s.texts.length∨(1<s.vers.length∧s.frozen=false) then 1 else if 100<s.vers.length then 2 else versE m h s
def secsE (m h:Int)(l:List SectP):Int:=QcI (fun k=>secX m h l k (l.getD k ⟨0,false,[],[]⟩)) l.length
def chkE (m h:Int)(l:List SectP):Int:=
 if ¬(500≤m∧m≤2000) then 5 else if ¬(4≤h∧h≤100) then 5 else if secsE m h l≠0 then secsE m h l else if 16384<(Qaf m h l).length then 2 else 0
def UptoS (m h:Int)(l:List SectP)(k:Nat):Prop:=∀j (hj:j<l.length),j<k→secX m h l j l[j]=0
theorem UptoS.all {m h:Int}{l:List SectP}(H:UptoS m h l l.length)(hm:500≤m∧m≤2000)(hh:4≤h∧h≤100):chkE m h l=if 16384<(Qaf m h l).length then 2 else 0:=by
 have h1:secsE m h l=0:=Qcb fun j hj=>by
  rw[List.getD_eq_getElem?_getD,qG hj];exact H j hj hj
 unfold chkE;rw[if_neg (not_not_intro hm),if_neg (not_not_intro hh),h1,if_neg (by simp)]
structure OkS (m h:Int)(l:List SectP)(k:Nat)(s:SectP):Prop where
 e:0≤s.entry∧s.entry≤65535
 f:¬findP l s.entry<(k:Int)
 o:¬(s.frozen=true∧openB l k=true)
 n:s.vers.length≠0
 nt:s.vers.length=s.texts.length
 nf:¬(1<s.vers.length∧s.frozen=false)
 lim:¬100<s.vers.length
 v:versE m h s=0
theorem secX_ok {m h:Int}{l:List SectP}{k:Nat}{s:SectP}(H:secX m h l k s=0):OkS m h l k s:=by
 unfold secX at H;split at H
 ·exact absurd H (by decide)
 ·rename_i h1;split at H
  ·exact absurd H (by decide)
  ·rename_i h2;split at H
   ·exact absurd H (by decide)
   ·rename_i h3;split at H
    ·exact absurd H (by decide)
    ·rename_i h4;split at H
     ·exact absurd H (by decide)
     ·rename_i h5;exact⟨Decidable.not_not.1 h1,h2,h3,fun h=>h4 (.inl h),Decidable.not_not.1 fun h=>h4 (.inr (.inl h)),fun h=>h4 (.inr (.inr h)),h5,H⟩
theorem OkS.sec {m h:Int}{l:List SectP}{k:Nat}{s:SectP}(H:OkS m h l k s):secX m h l k s=0:=by
 unfold secX;rw[if_neg (not_not_intro H.e),if_neg H.f,if_neg H.o,if_neg (fun h=>h.elim H.n fun h=>h.elim (fun h=>h H.nt) H.nf),if_neg H.lim,H.v]
def UptoV (m h:Int)(s:SectP)(q:Nat):Prop:=∀j (hj:j<s.vers.length) (ht:j<s.texts.length),j<q→verX m h s.vers j s.vers[j] s.texts[j]=0
theorem UptoV.all {m h:Int}{s:SectP}(hn:s.vers.length=s.texts.length)(H:UptoV m h s s.vers.length):versE m h s=0:=Qcb fun j hj=>by
 have hjt:j<s.texts.length:=by omega
 rw[List.getD_eq_getElem?_getD,qG hj,List.getD_eq_getElem?_getD,qG hjt];exact H j hj hjt hj
theorem not_take {l:List Int}(h:l.Nodup){q:Nat}(hq:q<l.length):l[q]∉l.take q:=by
 intro hm;obtain⟨i,hi,e⟩:=List.getElem_of_mem hm;rw[qK] at hi;rw[List.getElem_take] at e;exact List.pairwise_iff_getElem.1 h i q (by omega) hq (by omega) e
theorem versG_range {i j:Nat}(hi:i≤3)(hj:j≤2):∀v∈Qbh i j,0≤v∧v≤2147483647:=by
 intro v hv;unfold Qbh at hv;rcases List.mem_cons.1 hv with rfl|hv
 ·omega
 ·obtain⟨k,hk,rfl⟩:=List.mem_map.1 hv;rw[List.mem_range] at hk;omega
structure ChkS (f k:Nat)(l:List SectP)(s:SectP):Prop where
 e0:0≤s.entry
 e1:s.entry≤65535
 fd:findP l s.entry=(k:Int)
 fr:s.frozen=decide (k<f)
 n1:1≤s.vers.length
 n3:s.vers.length≤3
 nt:s.texts.length=s.vers.length
 nf:s.frozen=false→s.vers.length=1
 rg:∀v∈s.vers,0≤v∧v≤2147483647
 nd:s.vers.Nodup
 g:∀t∈s.texts,GText t.a t.b
theorem GBk.chk {m h:Int}{l:List SectP}(H:GBk m h l):∃f,∀k (hk:k<l.length),ChkS f k l l[k]:=by
 obtain⟨f,hf⟩:=H.s;have hn:=H.n;refine⟨f,fun k hk=>?_⟩;obtain⟨⟨d,hd,he⟩,h2,j,h3,h4,h5,h6,h7⟩:=hf k hk;have hvl:l[k].vers.length=j+1:=by rw[h5,QaR]
 refine⟨by omega,by omega,findP_hit hk rfl fun i hi e=>?_,h2,by omega,by omega,by omega,fun hfr=>by have:=h4 hfr;omega,by rw[h5];exact versG_range (by omega) h3,by rw[h5];exact Qdh k j (by omega) h3,h7⟩;obtain⟨⟨d2,hd2,he2⟩,-⟩:=hf i (by omega);omega
theorem GBk.noerr {m h:Int}{l:List SectP}(H:GBk m h l):chkE m h l=0:=by
 obtain⟨f,hf⟩:=H.chk;have hz:=H.siz
 have hu:UptoS m h l l.length:=fun k hk _=>by
  have hc:=hf k hk;refine OkS.sec ⟨⟨hc.e0,hc.e1⟩,by rw[hc.fd];omega,fun h=>?_,by have:=hc.n1;omega,hc.nt.symm,fun h=>by have:=hc.nf h.2;omega,by have:=hc.n3;omega,UptoV.all hc.nt.symm fun q hq ht _=>?_⟩
  ·have h1:k<f:=of_decide_eq_true (hc.fr▸h.1);have h2:=h.2;unfold openB at h2;obtain⟨x,hx,h3⟩:=List.any_eq_true.1 h2;obtain⟨j,hj,rfl⟩:=List.getElem_of_mem hx;rw[qK] at hj;rw[List.getElem_take] at h3;have h4:=(hf j (by omega)).fr;rw[decide_eq_true (show j<f by omega)] at h4;rw[h4] at h3;exact absurd h3 (by decide)
  ·unfold verX;rw[if_neg (not_not_intro (hc.rg _ (List.getElem_mem hq))),if_neg (not_take hc.nd hq)];exact(hc.g _ (List.getElem_mem ht)).wrong ⟨hz.m1,hz.m2⟩ ⟨hz.h1,hz.h2⟩
 rw[hu.all ⟨hz.m1,hz.m2⟩ ⟨hz.h1,hz.h2⟩,if_neg (by have:=H.tame.pages hz;omega)]
structure GoodS (m h:Int)(s:SectP):Prop where
 e:0≤s.entry∧s.entry≤65535
 n:s.vers.length≠0
 nt:s.vers.length=s.texts.length
 nf:s.frozen=false→s.vers.length≤1
 lim:s.vers.length≤100
 r:∀v∈s.vers,0≤v∧v≤2147483647
 d:s.vers.Nodup
 w:∀t∈s.texts,QcE m h t.a t.b=0
structure GoodB (m h:Int)(l:List SectP):Prop where
 gm:500≤m∧m≤2000
 gh:4≤h∧h≤100
 s:∀s∈l,GoodS m h s
 d:(l.map (·.entry)).Nodup
 f:l.Pairwise fun a b=>b.frozen=true→a.frozen=true
 p:(Qaf m h l).length≤16384
theorem versE_zero {m h:Int}{s:SectP}(hn:s.vers.length=s.texts.length)(H:versE m h s=0):(∀v∈s.vers,0≤v∧v≤2147483647)∧s.vers.Nodup∧∀t∈s.texts,QcE m h t.a t.b=0:=by
 have h1:∀q (hq:q<s.vers.length),(0≤s.vers[q]∧s.vers[q]≤2147483647)∧s.vers[q]∉s.vers.take q∧QcE m h (s.texts[q]'(by omega)).a (s.texts[q]'(by omega)).b=0:=fun q hq=>by
  have h2:=Qcc H q hq;have ht:q<s.texts.length:=(by omega);rw[List.getD_eq_getElem?_getD,qG hq,List.getD_eq_getElem?_getD,qG ht] at h2;simp only[Option.getD_some] at h2;unfold verX at h2;split at h2
  ·exact absurd h2 (by decide)
  ·rename_i h3;split at h2
   ·exact absurd h2 (by decide)
   ·rename_i h4;exact⟨Decidable.not_not.1 h3,h4,h2⟩
 refine⟨fun v hv=>?_,?_,fun t ht=>?_⟩
 ·obtain⟨q,hq,rfl⟩:=List.getElem_of_mem hv;exact(h1 q hq).1
 ·rw[List.nodup_iff_pairwise_ne,List.pairwise_iff_getElem];intro i j hi hj hij e;refine(h1 j hj).2.1 (List.mem_iff_getElem.2 ⟨i,by rw[qK];omega,?_⟩);rw[List.getElem_take];exact e
 ·obtain⟨q,hq,rfl⟩:=List.getElem_of_mem ht;exact(h1 q (by omega)).2.2
theorem findP_le {l:List SectP}{e:Int}{i:Nat}(hi:i<l.length)(he:l[i].entry=e):findP l e≤(i:Int):=by
 rcases findP_cases l e with h|⟨k,hk,h,-⟩
 ·rw[h];omega
 ·rw[h];by_cases hik:k≤i
  ·omega
  ·exfalso
   have h2:l.findIdx (fun s=>decide (s.entry=e))=k:=by
    unfold findP at h;split at h<;>omega
   have h3:=List.not_of_lt_findIdx (p:=fun s:SectP=>decide (s.entry=e)) (xs:=l) (i:=i) (by omega);simp[he] at h3
theorem chkE_good {m h:Int}{l:List SectP}(H:chkE m h l=0):GoodB m h l:=by
 unfold chkE at H;split at H
 ·exact absurd H (by decide)
 rename_i h1;split at H
 ·exact absurd H (by decide)
 rename_i h2;split at H
 ·rename_i h3;exact absurd H h3
 rename_i h3;split at H
 ·exact absurd H (by decide)
 rename_i h4
 have h5:∀k (hk:k<l.length),OkS m h l k l[k]:=fun k hk=>by
  have:=Qcc (Decidable.not_not.1 h3) k hk;rw[List.getD_eq_getElem?_getD,qG hk] at this;exact secX_ok this
 refine⟨Decidable.not_not.1 h1,Decidable.not_not.1 h2,fun s hs=>?_,?_,?_,by omega⟩
 ·obtain⟨k,hk,rfl⟩:=List.getElem_of_mem hs;have H:=h5 k hk;obtain⟨r,d,w⟩:=versE_zero H.nt H.v;exact⟨H.e,H.n,H.nt,fun hf=>by have:=H.nf;have h9:¬1<l[k].vers.length:=fun h9=>this ⟨h9,hf⟩;omega,by have:=H.lim;omega,r,d,w⟩
 ·rw[List.nodup_iff_pairwise_ne,List.pairwise_iff_getElem];intro i j hi hj hij e;rw[qM] at hi hj;rw[List.getElem_map,List.getElem_map] at e;have:=findP_le hi e;have:=(h5 j hj).f;omega
 ·rw[List.pairwise_iff_getElem];intro i j hi hj hij e;have h6:=(h5 j hj).o;cases hfi:l[i].frozen
  ·exfalso;refine h6 ⟨e,?_⟩;unfold openB;exact List.any_eq_true.2 ⟨l[i],List.mem_iff_getElem.2 ⟨i,by rw[qK];omega,List.getElem_take ..⟩,by rw[hfi];rfl⟩
  ·rfl
theorem okPages_some {a b:List (List Word)}{m h:Int}(hw:QcE m h a b=0):Qac a b m h≠[]:=by
 unfold QcE at hw;by_cases hE:textE a b m h=0
 ·rw[if_neg (by simpa using hE)] at hw;obtain⟨hf,⟨h1,h2⟩,hp⟩:=QbM hE;unfold Qac;rw[if_pos hE];unfold Qar;have hb:QaA a m≠[]:=by
   cases a with
   |nil=>
    have hn:b=[]:=by
     unfold QaQ at hp;have e0:QaA [] m=[]:=rfl;rw[e0] at hp;split at hp
     ·cases hp
     ·split at hp
      ·cases hp
      ·simp only[List.flatMap_nil,Qa0] at hp;split at hp
       ·cases hp
       ·rename_i h9;have h8:(Qah [] b m).length=b.length:=(by unfold Qah;rw[QaG]);exact List.eq_nil_of_length_eq_zero (by omega)
    subst hn;exfalso;rw[if_pos (by rfl)] at hw;cases hw
   |cons p ps=>
    have hr:=hf.reg h1 h2 (p:=p) (by simp);have:=setP_ne (ws:=p) 0 hr (hf.p p (by simp)).1;unfold QaA;rw[Qaj,List.flatten_cons];intro e;exact this (List.append_eq_nil_iff.1 e).1
  have ha:1≤Qag (QaA a m) (Qah a b m):=by
   cases hB:QaA a m with
   |nil=>exact absurd hB hb
   |cons x xs=>rw[Qag,List.map_cons,List.sum_cons];omega
  obtain⟨f,hf2⟩:∃f,Qag (QaA a m) (Qah a b m)=f+1:=⟨Qag (QaA a m) (Qah a b m)-1,by omega⟩;rw[hf2,setPages,if_neg (fun e=>hb e.1)];simp
 ·rw[if_pos hE] at hw;exact absurd hw hE
/-! Labels. -/
def LtL (p q:PageP):Prop:=p.num<q.num∨(p.num=q.num∧p.suf<q.suf)
theorem lab_k (e v num:Int)(k:Nat):∀(ps:List PageP) (suf:Int),(∀p∈QaD e v num suf (k+1) ps,p.num=num∧suf<p.suf∧p.suf≤suf+ps.length)∧(QaD e v num suf (k+1) ps).Pairwise LtL
 |[],suf=>by simp[QaD]
 |p::ps,suf=>by
  obtain⟨h1,h2⟩:=lab_k e v num k ps (suf+1);rw[Qbu,if_neg (by omega),if_neg (by omega)];refine⟨fun q hq=>?_,List.pairwise_cons.2 ⟨fun q hq=>?_,h2⟩⟩
  ·rcases List.mem_cons.1 hq with rfl|hq
   ·exact⟨rfl,by show suf<suf+1;omega,by show suf+1≤_;rw[qC];omega⟩
   ·have:=h1 q hq;rw[qC];omega
  ·have:=h1 q hq;exact .inr ⟨this.1.symm,by show suf+1<q.suf;omega⟩
theorem lab_0 (e v suf:Int):∀(ps:List PageP) (num:Int),(∀p∈QaD e v num suf 0 ps,num<p.num∧p.num≤num+ps.length∧p.suf=suf)∧(QaD e v num suf 0 ps).Pairwise LtL
 |[],num=>by simp[QaD]
 |p::ps,num=>by
  obtain⟨h1,h2⟩:=lab_0 e v suf ps (num+1);rw[Qbu,if_pos rfl,if_pos rfl];refine⟨fun q hq=>?_,List.pairwise_cons.2 ⟨fun q hq=>?_,h2⟩⟩
  ·rcases List.mem_cons.1 hq with rfl|hq
   ·exact⟨by show num<num+1;omega,by show num+1≤_;rw[qC];omega,rfl⟩
   ·have:=h1 q hq;rw[qC];omega
  ·have:=h1 q hq;exact .inl (by show num+1<q.num;omega)
theorem vers_k (m h e num:Int):∀(ts:List TextP) (k:Nat) (suf:Int) (vs:List Int),(∀p∈QaN m h e (k+1) num suf vs ts,p.num=num∧suf<p.suf)∧(QaN m h e (k+1) num suf vs ts).Pairwise LtL
 |[],k,suf,vs=>by simp[QaN]
 |t::ts,k,suf,vs=>by
  rw[QaN,if_neg (by omega),if_neg (by omega)];obtain⟨h1,h2⟩:=lab_k e (vs.headD 0) num k (Qac t.a t.b m h) suf;obtain⟨h3,h4⟩:=vers_k m h e num ts (k+1) (suf+(Qac t.a t.b m h).length) vs.tail;refine⟨fun p hp=>?_,List.pairwise_append.2 ⟨h2,h4,fun p hp q hq=>?_⟩⟩
  ·rcases List.mem_append.1 hp with hp|hp
   ·have:=h1 p hp;omega
   ·have:=h3 p hp;omega
  ·have:=h1 p hp;have:=h3 q hq;exact .inr ⟨by omega,by omega⟩
theorem vers_0 (m h e num:Int)(ts:List TextP)(vs:List Int)(ht:∀t∈ts,Qac t.a t.b m h≠[]):(∀p∈QaN m h e 0 num 0 vs ts,num<p.num∧p.num≤num+(QaC m h ⟨e,true,vs,ts⟩:Nat))∧(QaN m h e 0 num 0 vs ts).Pairwise LtL:=by
 cases ts with
 |nil=>simp[QaN]
 |cons t ts=>
  rw[QaN,if_pos rfl,if_pos rfl];obtain⟨h1,h2⟩:=lab_0 e (vs.headD 0) 0 (Qac t.a t.b m h) num;obtain⟨h3,h4⟩:=vers_k m h e (num+(Qac t.a t.b m h).length) ts 0 0 vs.tail;have hl:0<(Qac t.a t.b m h).length:=List.length_pos_iff.2 (ht t (by simp));have hpl:QaC m h ⟨e,true,vs,t::ts⟩=(Qac t.a t.b m h).length:=rfl;rw[hpl];refine⟨fun p hp=>?_,List.pairwise_append.2 ⟨h2,h4,fun p hp q hq=>?_⟩⟩
  ·rcases List.mem_append.1 hp with hp|hp
   ·have:=h1 p hp;omega
   ·have:=h3 p hp;omega
  ·have a1:=h1 p hp;have a2:=h3 q hq;rcases Int.lt_or_lt_of_ne (a:=p.num) (b:=q.num) |> fun _=>Classical.em (p.num=q.num) with h9|h9
   ·exact .inr ⟨h9,by omega⟩
   ·exact .inl (by omega)
theorem sects_lab {m h:Int}:∀(l:List SectP) (num:Int),(∀s∈l,∀t∈s.texts,Qac t.a t.b m h≠[])→(∀p∈Qas m h num l,num<p.num)∧(Qas m h num l).Pairwise LtL
 |[],num,_=>by simp[Qas]
 |s::ss,num,H=>by
  rw[Qas];obtain⟨h1,h2⟩:=vers_0 m h s.entry num s.texts s.vers (H s (by simp));obtain⟨h3,h4⟩:=sects_lab ss (num+QaC m h s) (fun x hx=>H x (by simp[hx]));have hpl:QaC m h ⟨s.entry,true,s.vers,s.texts⟩=QaC m h s:=rfl;rw[hpl] at h1;refine⟨fun p hp=>?_,List.pairwise_append.2 ⟨h2,h4,fun p hp q hq=>?_⟩⟩
  ·rcases List.mem_append.1 hp with hp|hp
   ·have:=h1 p hp;omega
   ·have:=h3 p hp;omega
  ·have:=h1 p hp;have:=h3 q hq;exact .inl (by omega)
theorem GoodB.lab {m h:Int}{l:List SectP}(H:GoodB m h l):(Qaf m h l).Pairwise LtL:=(sects_lab l 0 fun s hs t ht=>okPages_some ((H.s s hs).w t ht)).2
def ofV (e v:Int)(p:PageP):Bool:=decide (p.entry=e∧p.ver=v)
def cofV (e v:Int)(c:CoreP):Bool:=decide (c.entry=e∧c.ver=v)
theorem cofV_yes (e v:Int)(ps:List PageP):(ps.map (QbT e v)).filter (cofV e v)=ps.map (QbT e v):=by
 refine List.filter_eq_self.2 fun c hc=>?_
 obtain⟨p,-,rfl⟩:=List.mem_map.1 hc;exact decide_eq_true ⟨rfl,rfl⟩
theorem cofV_no (e v e' v':Int)(hne:¬(e'=e∧v'=v))(ps:List PageP):(ps.map (QbT e' v')).filter (cofV e v)=[]:=by
 refine List.filter_eq_nil_iff.2 fun c hc=>?_
 obtain⟨p,-,rfl⟩:=List.mem_map.1 hc;exact fun h=>hne (of_decide_eq_true h)
theorem filtV_entry (m h e v e':Int)(hne:e'≠e):∀(ts:List TextP) (vs:List Int),(QaI m h e' vs ts).filter (cofV e v)=[]
 |[],_=>by simp[QaI]
 |t::ts,vs=>by rw[QaI,List.filter_append,cofV_no e v e' _ (fun hh=>hne hh.1),filtV_entry m h e v e' hne ts];rfl
theorem filtV_ver (m h e v:Int):∀(ts:List TextP) (vs:List Int),ts.length≤vs.length→v∉vs→(QaI m h e vs ts).filter (cofV e v)=[]
 |[],_,_,_=>by simp[QaI]
 |t::ts,[],hl,_=>by simp at hl
 |t::ts,x::vs,hl,hv=>by
  rw[QaI,List.filter_append,cofV_no e v e _ (fun hh=>hv (by have:=hh.2;simp at this;simp[this])),List.tail_cons,filtV_ver m h e v ts vs (by simpa using hl) (fun hh=>hv (by simp[hh]))];rfl
theorem filtV_at (m h e:Int):∀(ts:List TextP) (vs:List Int) (k:Nat) (hk:k<ts.length) (hv:k<vs.length),ts.length≤vs.length→vs.Nodup→(QaI m h e vs ts).filter (cofV e vs[k])=(Qac ts[k].a ts[k].b m h).map (QbT e vs[k])
 |t::ts,x::vs,0,hk,hv,hl,hn=>by
  rw[QaI,List.filter_append];show((Qac t.a t.b m h).map (QbT e x)).filter (cofV e x)++(QaI m h e vs ts).filter (cofV e x)=_;rw[cofV_yes,filtV_ver m h e x ts vs (by simpa using hl) (List.nodup_cons.1 hn).1,List.append_nil];rfl
 |t::ts,x::vs,k+1,hk,hv,hl,hn=>by
  have hk':k<ts.length:=(by simpa using hk);have hv':k<vs.length:=(by simpa using hv);rw[QaI,List.filter_append];show((Qac t.a t.b m h).map (QbT e x)).filter (cofV e vs[k])++(QaI m h e vs ts).filter (cofV e vs[k])=_;rw[cofV_no e _ e x (fun hh=>(List.nodup_cons.1 hn).1 (by rw[hh.2];exact List.getElem_mem hv')),List.nil_append,filtV_at m h e ts vs k hk' hv' (by simpa using hl) (List.nodup_cons.1 hn).2];rfl
theorem Qb4 (m h e v:Int):∀(l:List SectP),(∀s∈l,s.entry≠e)→(QbS m h l).filter (cofV e v)=[]
 |[],_=>rfl
 |s::l,hs=>by
  show(QaI m h s.entry s.vers s.texts++QbS m h l).filter (cofV e v)=[];rw[List.filter_append,filtV_entry m h e v _ (hs s (by simp)),Qb4 m h e v l (fun x hx=>hs x (by simp[hx]))];rfl
theorem pagesV {m h:Int}{l:List SectP}(H:GoodB m h l){i k:Nat}(hi:i<l.length)(hk:k<l[i].texts.length)(hv:k<l[i].vers.length):
 ((Qaf m h l).filter (ofV l[i].entry l[i].vers[k])).map PageP.core=(Qac l[i].texts[k].a l[i].texts[k].b m h).map (QbT l[i].entry l[i].vers[k]):=by
 have g:=H.s _ (List.getElem_mem hi);have hsp:l=l.take i++l[i]::l.drop (i+1):=by rw[←List.drop_eq_getElem_cons hi,List.take_append_drop]
 have hd:=List.pairwise_iff_getElem.1 H.d;have hc:QbS m h l=QbS m h (l.take i)++(QaI m h l[i].entry l[i].vers l[i].texts++QbS m h (l.drop (i+1))):=by
  (conv=>lhs;rw[hsp]);unfold QbS;rw[List.flatMap_append,List.flatMap_cons]
 have hf:∀ps:List PageP,(ps.filter (ofV l[i].entry l[i].vers[k])).map PageP.core=(ps.map PageP.core).filter (cofV l[i].entry l[i].vers[k]):=fun ps=>by
  rw[List.filter_map];rfl
 rw[hf,Qb3,hc,List.filter_append,List.filter_append]
 rw[Qb4 m h _ _ (l.take i) (fun s hs=>by
  obtain⟨a,ha,rfl⟩:=List.getElem_of_mem hs
  rw[qK] at ha
  rw[List.getElem_take]
  have:=hd a i (by rw[qM];omega) (by rw[qM];exact hi) (by omega)
  rwa [List.getElem_map,List.getElem_map] at this),
  Qb4 m h _ _ (l.drop (i+1)) (fun s hs=>by
   obtain⟨a,ha,rfl⟩:=List.getElem_of_mem hs
   rw[List.length_drop] at ha
   rw[List.getElem_drop]
   have:=hd i (i+1+a) (by rw[qM];exact hi) (by rw[qM];omega) (by omega)
   rw[List.getElem_map,List.getElem_map] at this
   exact fun e=>this e.symm)]
 rw[List.nil_append,List.append_nil,filtV_at m h _ _ _ k hk hv (Nat.le_of_eq g.nt.symm) g.d]
theorem Qb9 {a b:List PageP}{e v:Int}(h:a.map PageP.core=b.map (QbT e v)):a.flatMap (·.body)=b.flatMap (·.body)∧a.flatMap (·.notes)=b.flatMap (·.notes):=by
 have h1:(a.map PageP.core).flatMap (·.body)=(b.map (QbT e v)).flatMap (·.body):=by rw[h]
 have h2:(a.map PageP.core).flatMap (·.notes)=(b.map (QbT e v)).flatMap (·.notes):=by rw[h]
 rw[List.flatMap_map,List.flatMap_map] at h1 h2;exact⟨h1,h2⟩
def HitAt (ps:List PageP)(e v wd:Int)(P i:Nat):Prop:=∃(hP:P<ps.length),(ps[P].entry=e∧ps[P].ver=v)∧∃(hi:i<(ps[P].body++ps[P].notes).length),(ps[P].body++ps[P].notes)[i].fr≤wd∧wd<(ps[P].body++ps[P].notes)[i].un
theorem QcY {e v wd n s:Int}{x:Nat}:∀{ps:List PageP},Qal e v wd ps=some (n,s,x)→∃P i,HitAt ps e v wd P i∧(∃(hP:P<ps.length),ps[P].num=n∧ps[P].suf=s)∧x=i+1
 |[],h=>by simp[Qal] at h
 |p::ps,h=>by
  rw[Qal] at h;split at h
  ·rename_i i hm;split at hm
   ·rename_i hev;unfold QcO at hm;obtain⟨hi,h1,-⟩:=List.findIdx?_eq_some_iff_getElem.1 hm;obtain⟨rfl,rfl,rfl⟩:=by simpa using h
    exact⟨0,i,⟨by simp,hev,hi,of_decide_eq_true h1⟩,⟨by simp,rfl,rfl⟩,rfl⟩
   ·simp at hm
  ·obtain⟨P,i,⟨hP,h1,h2⟩,⟨hP',h3⟩,h4⟩:=QcY h;exact⟨P+1,i,⟨by simpa using hP,by simpa using h1,by simpa using h2⟩,⟨by simpa using hP,by simpa using h3⟩,h4⟩
theorem order_pair {l:List PageP}{φ:PageP→Bool}{g:PageP→List LineP}(H:OrdL ((l.filter φ).flatMap g)):(∀P (h:P<l.length),φ l[P]=true→OrdL (g l[P]))∧ ∀P Q (hP:P<l.length) (hQ:Q<l.length),P<Q→φ l[P]=true→φ l[Q]=true→∀x∈g l[P],∀y∈g l[Q],x.un≤y.fr:=by
 unfold OrdL at H;rw[List.pairwise_flatMap,List.pairwise_filter] at H;refine⟨fun P hP h=>H.1 _ (List.mem_filter.2 ⟨List.getElem_mem hP,h⟩),fun P Q hP hQ h h1 h2=>?_⟩;exact List.pairwise_iff_getElem.1 H.2 P Q hP hQ h h1 h2
theorem follows_gen {ps:List PageP}{φ:PageP→Bool}{lo mid hi wd:Int}(o1:OrdL ((ps.filter φ).flatMap (·.body)))(o2:OrdL ((ps.filter φ).flatMap (·.notes)))(o3:InW lo mid ((ps.filter φ).flatMap (·.body)))(o4:InW mid hi ((ps.filter φ).flatMap (·.notes))) {P Q a b:Nat} (hP:P<ps.length) (hQ:Q<ps.length) (c1:φ ps[P]=true) (c2:φ ps[Q]=true) (ha:a<(ps[P].body++ps[P].notes).length) (hb:b<(ps[Q].body++ps[Q].notes).length) (f1:(ps[P].body++ps[P].notes)[a].fr≤wd) (f2:wd<(ps[P].body++ps[P].notes)[a].un) (f3:(ps[Q].body++ps[Q].notes)[b].fr≤wd+1) (f4:wd+1<(ps[Q].body++ps[Q].notes)[b].un) (hne:wd+1≠mid):P<Q∨(P=Q∧a≤b):=by
 obtain⟨b1,b2⟩:=order_pair o1;obtain⟨n1,n2⟩:=order_pair o2;have inB:∀(R:Nat) (hR:R<ps.length),φ ps[R]=true→∀x∈ps[R].body,x.un≤mid:=fun R hR hc x hx=>(o3 x (List.mem_flatMap.2 ⟨_,List.mem_filter.2 ⟨List.getElem_mem hR,hc⟩,hx⟩)).2.2
 have inN:∀(R:Nat) (hR:R<ps.length),φ ps[R]=true→∀x∈ps[R].notes,mid≤x.fr:=fun R hR hc x hx=>(o4 x (List.mem_flatMap.2 ⟨_,List.mem_filter.2 ⟨List.getElem_mem hR,hc⟩,hx⟩)).1
 have hPQ:=Nat.lt_trichotomy P Q;by_cases h1:a<ps[P].body.length
 ·have e1:(ps[P].body++ps[P].notes)[a]=ps[P].body[a]:=List.getElem_append_left h1;rw[e1] at f1 f2;have g1:=inB P hP c1 _ (List.getElem_mem h1);by_cases h2:b<ps[Q].body.length
  ·have e2:(ps[Q].body++ps[Q].notes)[b]=ps[Q].body[b]:=List.getElem_append_left h2;rw[e2] at f3 f4;rcases hPQ with h|h|h
   ·exact Or.inl h
   ·subst h;refine Or.inr ⟨rfl,?_⟩;apply Classical.byContradiction;intro hc;have:=List.pairwise_iff_getElem.1 (b1 P hP c1) b a h2 h1 (by omega);omega
   ·have:=b2 Q P hQ hP h c2 c1 _ (List.getElem_mem h2) _ (List.getElem_mem h1);omega
  ·have h2':b-ps[Q].body.length<ps[Q].notes.length:=by rw[qA] at hb;omega
   have e2:(ps[Q].body++ps[Q].notes)[b]=ps[Q].notes[b-ps[Q].body.length]:=List.getElem_append_right (by omega);rw[e2] at f3 f4;have:=inN Q hQ c2 _ (List.getElem_mem h2');omega
 ·have h1':a-ps[P].body.length<ps[P].notes.length:=by rw[qA] at ha;omega
  have e1:(ps[P].body++ps[P].notes)[a]=ps[P].notes[a-ps[P].body.length]:=List.getElem_append_right (by omega);rw[e1] at f1 f2;have g1:=inN P hP c1 _ (List.getElem_mem h1');by_cases h2:b<ps[Q].body.length
  ·have e2:(ps[Q].body++ps[Q].notes)[b]=ps[Q].body[b]:=List.getElem_append_left h2;rw[e2] at f3 f4;have:=inB Q hQ c2 _ (List.getElem_mem h2);omega
  ·have h2':b-ps[Q].body.length<ps[Q].notes.length:=by rw[qA] at hb;omega
   have e2:(ps[Q].body++ps[Q].notes)[b]=ps[Q].notes[b-ps[Q].body.length]:=List.getElem_append_right (by omega);rw[e2] at f3 f4;rcases hPQ with h|h|h
   ·exact Or.inl h
   ·subst h;refine Or.inr ⟨rfl,?_⟩;apply Classical.byContradiction;intro hc;have:=List.pairwise_iff_getElem.1 (n1 P hP c1) (b-ps[P].body.length) (a-ps[P].body.length) h2' h1' (by omega);omega
   ·have:=n2 Q P hQ hP h c2 c1 _ (List.getElem_mem h2') _ (List.getElem_mem h1');omega
theorem hit_follows {m h:Int}{l:List SectP}(H:GoodB m h l)(hz:Siz m h){i k:Nat}(hi:i<l.length)(hk:k<l[i].texts.length)(hv:k<l[i].vers.length)(hg:GText l[i].texts[k].a l[i].texts[k].b){wd:Int}{P Q a b:Nat} (h1:HitAt (Qaf m h l) l[i].entry l[i].vers[k] wd P a) (h2:HitAt (Qaf m h l) l[i].entry l[i].vers[k] (wd+1) Q b) (hne:wd+1≠(tot l[i].texts[k].a:Nat)):P<Q∨(P=Q∧a≤b):=by
 obtain⟨o1,o2,o3,o4,-⟩:=Qcu hg hz;have hc:=Qb9 (pagesV H hi hk hv);rw[←hc.1] at o1 o3;rw[←hc.2] at o2 o4;obtain⟨hP,ev1,ha,f1,f2⟩:=h1;obtain⟨hQ,ev2,hb,f3,f4⟩:=h2;exact follows_gen o1 o2 o3 o4 hP hQ (decide_eq_true ev1) (decide_eq_true ev2) ha hb f1 f2 f3 f4 hne
theorem words_sum {m h:Int}{l:List SectP}(H:GoodB m h l)(hz:Siz m h){i k:Nat}(hi:i<l.length)(hk:k<l[i].texts.length)(hv:k<l[i].vers.length)(hg:GText l[i].texts[k].a l[i].texts[k].b)(f:Int→Nat):
 ((Qaf m h l).map fun p=>if ofV l[i].entry l[i].vers[k] p=true then QbQ f (p.body++p.notes) else 0).sum=Qap f 0 (tot (l[i].texts[k].a++l[i].texts[k].b):Nat):=by
 obtain⟨-,-,-,-,o5⟩:=Qcu hg hz;have hc:=Qb9 (pagesV H hi hk hv);rw[←o5 f,←hc.1,←hc.2];generalize Qaf m h l=ps;induction ps with
 |nil=>rfl
 |cons p ps ih=>
  rw[List.map_cons,List.sum_cons,ih,List.filter_cons];split
  ·rw[List.flatMap_cons,List.flatMap_cons,Qbg,Qbg,Qbg];omega
  ·rw[Nat.zero_add]
def Steps (hi:Int):Int→List Span→Prop
 |lo,[]=>lo≤hi
 |lo,s::r=>lo≤s.f∧s.f<s.u∧s.u≤hi∧Steps hi s.u r
theorem Steps.le {hi:Int}:∀{lo:Int} {l:List Span},Steps hi lo l→∀s∈l,lo≤s.f∧s.f<s.u∧s.u≤hi
 |_,[],_,s,hs=>absurd hs (by simp)
 |lo,x::r,h,s,hs=>by
  obtain⟨h1,h2,h3,h4⟩:=h;rcases List.mem_cons.1 hs with rfl|hs
  ·exact⟨h1,h2,h3⟩
  ·have:=Steps.le h4 s hs;omega
theorem Steps.hi {hi:Int}:∀{lo:Int} {l:List Span},Steps hi lo l→lo≤hi
 |_,[],h=>h
 |_,_::_,h=>by obtain⟨h1,h2,h3,-⟩:=h;omega
def QcD (l:List Span)(x:Int):Nat:=if(l.any fun s=>decide (s.f≤x∧x<s.u))=true then 1 else 0
theorem Qde {l:List Span}{x:Int}(h:∃s∈l,s.f≤x∧x<s.u):QcD l x=1:=by
 unfold QcD;obtain⟨s,hs,h⟩:=h;rw[if_pos (List.any_eq_true.2 ⟨s,hs,decide_eq_true h⟩)]
theorem QcR {l:List Span}{x:Int}(h:∀s∈l,¬(s.f≤x∧x<s.u)):QcD l x=0:=by
 unfold QcD;rw[if_neg];intro he;obtain⟨s,hs,hd⟩:=List.any_eq_true.1 he;exact h s hs (of_decide_eq_true hd)
theorem sumWd_congr {f g:Int→Nat}{a b:Int}(h:∀x,a≤x→x<b→f x=g x):Qap f a b=Qap g a b:=by
 unfold Qap;congr 1;refine List.map_congr_left fun i hi=>?_
 have:=List.mem_range.1 hi;exact h _ (by omega) (by omega)
theorem QdE {hi:Int}:∀{lo:Int} {l:List Span},Steps hi lo l→((Qap (QcD l) lo hi:Nat):Int)=(l.map fun s=>s.u-s.f).sum
 |lo,[],h=>by
  rw[Qcs _ fun x _ _=>QcR fun s hs=>absurd hs (by simp)];rfl
 |lo,s::r,h=>by
  obtain⟨h1,h2,h3,h4⟩:=h;have hle:=h4.le;rw[QaL _ h1 (show s.f≤hi by omega),QaL _ (show s.f≤s.u by omega) h3,List.map_cons,List.sum_cons,←QdE h4]
  have e1:Qap (QcD (s::r)) lo s.f=0:=Qcs _ fun x k1 k2=>QcR fun q hq=>by
   rcases List.mem_cons.1 hq with rfl|hq
   ·omega
   ·have:=hle q hq;omega
  have e2:=sumWd_one (QcD (s::r)) (a:=s.f) (b:=s.u) (by omega) fun x k1 k2=>Qde ⟨s,by simp,k1,k2⟩
  have e3:Qap (QcD (s::r)) s.u hi=Qap (QcD r) s.u hi:=sumWd_congr fun x k1 k2=>by
   by_cases h:∃q∈r,q.f≤x∧x<q.u
   ·rw[Qde h];obtain⟨q,hq,hx⟩:=h;exact Qde ⟨q,by simp[hq],hx⟩
   ·rw[QcR fun q hq hx=>h ⟨q,hq,hx⟩];refine QcR fun q hq hx=>?_
    rcases List.mem_cons.1 hq with rfl|hq
    ·omega
    ·exact h ⟨q,hq,hx⟩
  rw[e1,e3];omega
def Qau (ps:List PageP)(n s:Int):Nat:=ps.findIdx fun p=>decide (p.num=n∧p.suf=s)
theorem labIx_at {ps:List PageP}(H:ps.Pairwise LtL){P:Nat}(hP:P<ps.length):Qau ps ps[P].num ps[P].suf=P:=by
 unfold Qau;rw[List.findIdx_eq hP];refine⟨by simp,fun j hj=>decide_eq_false fun h=>?_⟩;have:=List.pairwise_iff_getElem.1 H j P (by omega) hP hj;unfold LtL at this;omega
theorem follow_law {m h:Int}{l:List SectP}(H:GoodB m h l)(hz:Siz m h){i k:Nat}(hi:i<l.length)(hk:k<l[i].texts.length)(hv:k<l[i].vers.length)(hg:GText l[i].texts[k].a l[i].texts[k].b){wd n1 s1 n2 s2:Int}{x y:Nat} (h1:Qal l[i].entry l[i].vers[k] wd (Qaf m h l)=some (n1,s1,x)) (h2:Qal l[i].entry l[i].vers[k] (wd+1) (Qaf m h l)=some (n2,s2,y)):
 Qau (Qaf m h l) n1 s1<(Qaf m h l).length∧Qau (Qaf m h l) n2 s2<(Qaf m h l).length∧
 (wd+1=(tot l[i].texts[k].a:Nat)∨Qau (Qaf m h l) n1 s1<Qau (Qaf m h l) n2 s2∨(Qau (Qaf m h l) n2 s2=Qau (Qaf m h l) n1 s1∧x≤y)):=by
 obtain⟨P,a,k1,⟨hP,rfl,rfl⟩,rfl⟩:=QcY h1;obtain⟨Q,b,k2,⟨hQ,rfl,rfl⟩,rfl⟩:=QcY h2;rw[labIx_at H.lab hP,labIx_at H.lab hQ];refine⟨hP,hQ,?_⟩;by_cases hne:wd+1=(tot l[i].texts[k].a:Nat)
 ·exact Or.inl hne
 ·rcases hit_follows H hz hi hk hv hg k1 k2 hne with h|⟨rfl,h⟩
  ·exact Or.inr (Or.inl h)
  ·exact Or.inr (Or.inr ⟨rfl,by omega⟩)
theorem labIx_step {ps:List PageP}{n s:Int}{k:Nat}(hk:k<ps.length)(h:k≤Qau ps n s)(hne:¬(ps[k].num=n∧ps[k].suf=s)):k+1≤Qau ps n s:=by
 apply Classical.byContradiction;intro hc;have he:Qau ps n s=k:=by omega
 unfold Qau at he;have hlt:(ps.findIdx fun p=>decide (p.num=n∧p.suf=s))<ps.length:=by omega
 have:=List.findIdx_getElem (w:=hlt);simp only[he] at this;exact hne (of_decide_eq_true this)
theorem labIx_hit {ps:List PageP}{n s:Int}{k:Nat}(hk:k<ps.length)(h:k≤Qau ps n s)(he:ps[k].num=n∧ps[k].suf=s):Qau ps n s=k:=by
 apply Classical.byContradiction;intro hc;have hlt:k<Qau ps n s:=by omega
 unfold Qau at hlt;have:=List.not_of_lt_findIdx hlt;simp[he] at this
def ixV (ps:List PageP)(n s:Int):Int:=if Qau ps n s<ps.length then(Qau ps n s:Nat) else -1
theorem index_any (A:Option Addr)(c np:Nat)(ps:List PageP)(n s:Int)(w:World)(hl:Sl w (fun b=>b<w.heap.size) A c ps)(hn:ps.length=np):
 Calls Tryd.prog 28 #[.slice A np c,.agg #[.int .i64 n,.int .i64 s]] w fun e w'=>e=.returned (.int .i64 (ixV ps n s))∧Below w.heap.size w w':=by
 have hlen:np≤9223372036854775807:=by have:=hl.1;have:=hl.2.1;unfold maxLen at this;omega
 have HN:=Lh hn;have HL:=Lh hl;clear hn hl;obtain⟨X,hX⟩:∃X,w.heap.size=X:=⟨_,rfl⟩;obtain⟨w2,hw2⟩:∃w2,w.alloc (.cells #[.int .i64 n,.int .i64 s] 45)=w2:=⟨_,rfl⟩;have hb2:Below w.heap.size w w2:=by rw[←hw2];exact bR.alloc nL _
 have hxx:ABox w2 X 45 [.int .i64 n,.int .i64 s]:=by rw[←hw2,←hX];exact heap_alloc_new w _
 have HX:=Lh hxx;have HB:=Lh hb2;have HS:=Lh (HL.out.to hb2);clear HL hxx hb2;go_enter Tryd.func28,Tryd.ntmps28;go_upto_region 1 with(fail);(try rw[hX]);(try rw[hw2]);clear hX hw2;go_wp2_with fail;go_loopw [5] (fun i wr=>∃k:Nat,k≤np∧i=.int .i64 k∧k≤Qau ps n s∧Below w2.heap.size w2 wr) (fun i _=>np-(intOf i).toNat);(case atStart=>exact⟨0,by omega,rfl,Nat.zero_le _,Below.refl _ _⟩);case round=>
  obtain⟨k,hk,rfl,hi,hbl⟩:=hrel;have HI:=Lh hi;have HBL:=Lh hbl;have hx0:=(HX.out.to hbl).cell 0 rfl;have hx1:=(HX.out.to hbl).cell 1 rfl;by_cases hlt:k<np
  ·have hkl:k<ps.length:=by rw[HN.out];exact hlt
   obtain⟨bp,op,P1,d1,P2,d2,rfl,-,hbp,f0,f1,f2,f3,f4,f5,hp1,hp2⟩:=pageS_at (HS.out.to hbl) hkl;have hkI:(k:Int)<(np:Int):=(by omega);have HH:=Lh (labIx_hit hkl hi);have HM:=Lh (labIx_step hkl hi);clear hp1 hp2 f2 f3 f4 f5 hbl hi;obtain⟨pn,hpn⟩:∃pn,ps[k].num=pn:=⟨_,rfl⟩;obtain⟨pf,hpf⟩:∃pf,ps[k].suf=pf:=⟨_,rfl⟩;rw[hpn] at f0 HH HM;rw[hpf] at f1 HH HM;clear hpn hpf hkl;by_cases e1:pn=n
   ·by_cases e2:pf=s
    ·have HR:Hid (ixV ps n s=(k:Nat)):=Lh (by have:=HH.out ⟨e1,e2⟩;unfold ixV;rw[this,HN.out,if_pos hlt]);subst e1 e2;clear HH HM;go_wp2_with (first|go_quiet (fail)|fail);go_ret;exact⟨Qae HR.out.symm,HB.out.trans (Below.dn (HBL.out.mono HB.out.size) _)⟩
    ·have HR:=Lh (HM.out (fun h=>e2 h.2));clear HH HM;go_wp2_with (first|go_quiet (fail)|fail);go_roundw;(case rel=>exact⟨k+1,by omega,by go_num,HR.out,Below.dn HBL.out _⟩);case measure=>simp[intOf];omega
   ·have HR:=Lh (HM.out (fun h=>e1 h.1));clear HH HM;go_wp2_with (first|go_quiet (fail)|fail);go_roundw;(case rel=>exact⟨k+1,by omega,by go_num,HR.out,Below.dn HBL.out _⟩);case measure=>simp[intOf];omega
  ·have HR:Hid (ixV ps n s= -1):=Lh (by unfold ixV;rw[if_neg];have:=HN.out;omega);clear hbl hi;go_wp2_with fail;go_ret;exact⟨Qae HR.out.symm,HB.out.trans (HBL.out.mono HB.out.size)⟩
set_option maxRecDepth 100000 in
theorem follows_any {m h:Int}{Ab:Option Addr}{cb:Nat}{ss:List SectP}{w:World}(hbo:BookOk w m h Ab cb ss)(Ap:Option Addr)(cp np:Nat)(ps:List PageP)(hps:Sl w (fun b=>b<w.heap.size) Ap cp ps)(hnp:ps.length=np) (en ve wd n1 s1 n2 s2:Int) (x y:Nat) (nb:Bool) (hwd:0≤wd∧wd≤1048576) (h1:Qal en ve wd (Qaf m h ss)=some (n1,s1,x)) (h2:Qal en ve (wd+1) (Qaf m h ss)=some (n2,s2,y)) (hp:Qau ps n1 s1<np) (hq:Qau ps n2 s2<np) (hf:nb=true∨Qau ps n1 s1<Qau ps n2 s2∨(Qau ps n2 s2=Qau ps n1 s1∧x≤y)):
 Calls Tryd.prog 12 #[.agg #[.int .i64 m,.int .i64 h,.slice Ab ss.length cb],.slice Ap np cp,.int .i64 en,.int .i64 ve,.int .i64 wd,.bool nb] w fun e w'=>e=.returned (.bool true)∧Below w.heap.size w w':=by
 have hlen:np≤9223372036854775807:=by have:=hps.1;have:=hps.2.1;unfold maxLen at this;omega
 have HN:=Lh hnp;have HPS:=Lh hps;have HF:=Lh hf
 have HW1:Hid (∀V,Below w.heap.size w V→Calls Tryd.prog 27 #[.agg #[.int .i64 m,.int .i64 h,.slice Ab ss.length cb],.int .i64 en,.int .i64 ve,.int .i64 wd] V fun e W'=>e=.returned (.tuple #[.agg #[.int .i64 n1,.int .i64 s1],.int .i64 (x:Nat),.bool true])∧Below V.heap.size V W'):=Lh (fun V hV=>by
  have hc:=where_any (hbo.to hV) en ve wd
  rw[h1] at hc
  exact hc)
 have HW2:Hid (∀V,Below w.heap.size w V→Calls Tryd.prog 27 #[.agg #[.int .i64 m,.int .i64 h,.slice Ab ss.length cb],.int .i64 en,.int .i64 ve,.int .i64 (wd+1)] V fun e W'=>e=.returned (.tuple #[.agg #[.int .i64 n2,.int .i64 s2],.int .i64 (y:Nat),.bool true])∧Below V.heap.size V W'):=Lh (fun V hV=>by
  have hc:=where_any (hbo.to hV) en ve (wd+1)
  rw[h2] at hc
  exact hc)
 have HI1:Hid (ixV ps n1 s1=(Qau ps n1 s1:Nat)):=Lh (by unfold ixV;rw[if_pos (by omega)]);have HI2:Hid (ixV ps n2 s2=(Qau ps n2 s2:Nat)):=Lh (by unfold ixV;rw[if_pos (by omega)]);clear hnp hps hf h1 h2 hbo;obtain⟨X,hX⟩:∃X,w.heap.size=X:=⟨_,rfl⟩;obtain⟨w2,hw2⟩:∃w2,w.alloc (.cells #[.int .i64 m,.int .i64 h,.slice Ab ss.length cb] 25)=w2:=⟨_,rfl⟩;have hb2:Below w.heap.size w w2:=by rw[←hw2];exact bR.alloc nL _
 have hxx:ABox w2 X 25 [.int .i64 m,.int .i64 h,.slice Ab ss.length cb]:=by rw[←hw2,←hX];exact heap_alloc_new w _
 have HX:=Lh hxx;have HB:=Lh hb2;clear hxx hb2;have HV1:Hid (∀V,Below w2.heap.size w2 V→Calls Tryd.prog 27 #[.agg #[.int .i64 m,.int .i64 h,.slice Ab ss.length cb],.int .i64 en,.int .i64 ve,.int .i64 wd] V fun e W'=>e=.returned (.tuple #[.agg #[.int .i64 n1,.int .i64 s1],.int .i64 (x:Nat),.bool true])∧Below V.heap.size V W'):=Lh (fun V hV=>HW1.out V (HB.out.trans (hV.mono HB.out.size)));have HSS1:Hid (∀V,Below w2.heap.size w2 V→V.cell? ⟨X,0,none⟩=some (.int .i64 m)∧V.cell? ⟨X,1,none⟩=some (.int .i64 h)∧V.cell? ⟨X,2,none⟩=some (.slice Ab ss.length cb)):=Lh (fun V hV=>⟨(HX.out.to hV).cell 0 rfl,(HX.out.to hV).cell 1 rfl,(HX.out.to hV).cell 2 rfl⟩);go_enter Tryd.func12,Tryd.ntmps12;go_upto_region 1 with(fail);(try rw[hX]);(try rw[hw2]);clear hX hw2;have q0:=HX.out.cell 0 rfl;have q1:=HX.out.cell 1 rfl;have q2:=HX.out.cell 2 rfl;have hI1:(x:Int)≤9223372036854775807∨True:=Or.inr trivial;clear hI1
 go_upto_region 2 with(first|(go_at_call 27;refine(HV1.out w2 bR).mono ?_;rintro e w3 ⟨rfl,hb3⟩;have HB3:=Lh hb3;clear hb3)|fail)
 obtain⟨L1,hL1⟩:∃L,w3.heap.size=L:=⟨_,rfl⟩;obtain⟨w4,hw4⟩:∃W,w3.alloc (.cells #[.int .i64 n1,.int .i64 s1] 45)=W:=⟨_,rfl⟩;have hb4:Below w3.heap.size w3 w4:=by rw[←hw4];exact bR.alloc nL _
 have hx4:ABox w4 L1 45 [.int .i64 n1,.int .i64 s1]:=by rw[←hw4,←hL1];exact heap_alloc_new w3 _
 rw[hL1,hw4];have HX4:=Lh hx4;have HB4:Hid (Below w2.heap.size w2 w4):=Lh (HB3.out.trans (hb4.mono HB3.out.size));clear hL1 hw4 hb4 hx4 HB3 q0 q1 q2;have HE4:=Lh (HB.out.trans (HB4.out.mono HB.out.size));have q0:=(HX.out.to HB4.out).cell 0 rfl;have q1:=(HX.out.to HB4.out).cell 1 rfl;have q2:=(HX.out.to HB4.out).cell 2 rfl
 go_upto_region 3 with(first|(go_at_call 27;refine(HW2.out w4 HE4.out).mono ?_;rintro e w5 ⟨rfl,hb5⟩;have HB5:=Lh hb5;clear hb5)|fail)
 obtain⟨L2,hL2⟩:∃L,w5.heap.size=L:=⟨_,rfl⟩;obtain⟨w6,hw6⟩:∃W,w5.alloc (.cells #[.int .i64 n2,.int .i64 s2] 45)=W:=⟨_,rfl⟩;have hb6:Below w5.heap.size w5 w6:=by rw[←hw6];exact bR.alloc nL _
 have hx6:ABox w6 L2 45 [.int .i64 n2,.int .i64 s2]:=by rw[←hw6,←hL2];exact heap_alloc_new w5 _
 rw[hL2,hw6];have HX6:=Lh hx6;have HB6:Hid (Below w4.heap.size w4 w6):=Lh (HB5.out.trans (hb6.mono HB5.out.size));clear hL2 hw6 hb6 hx6 HB5 q0 q1 q2;have HE6:=Lh (HE4.out.trans (HB6.out.mono HE4.out.size));have HX46:=Lh (HX4.out.to HB6.out);have HPb:=Lh (HPS.out.to HE6.out);clear HV1 HW1 HW2 HSS1 HPS HX4;have x0:=HX46.out.cell 0 rfl;have x1:=HX46.out.cell 1 rfl
 go_upto_region 6 with(first|(go_at_call 28;refine(index_any Ap cp np ps n1 s1 _ HPb.out HN.out).mono ?_;rintro e w7 ⟨rfl,hb7⟩;have HPc:=Lh (HPb.out.to hb7);have y0:=(HX6.out.to hb7).cell 0 rfl;have y1:=(HX6.out.to hb7).cell 1 rfl;have HE7:=Lh (HE6.out.trans (hb7.mono HE6.out.size));clear hb7 HPb x0 x1;rw[HI1.out])|fail)
 go_upto_region 7 with(first|(go_at_call 28;refine(index_any Ap cp np ps n2 s2 _ HPc.out HN.out).mono ?_;rintro e w8 ⟨rfl,hb8⟩;have HE8:=Lh (HE7.out.trans (hb8.mono HE7.out.size));clear hb8 HPc y0 y1;rw[HI2.out])|fail)
 generalize Qau ps n1 s1=P at*;generalize Qau ps n2 s2=Q at*;have hP0:(0:Int)≤(P:Int):=by omega
 have hQ0:(0:Int)≤(Q:Int):=by omega
 have hf:=HF.out;clear HI1 HI2;cases nb with
 |true=>
  clear hf;go_wp2_with fail;go_ret;exact⟨rfl,HE8.out⟩
 |false=>
  have hf2:=hf.resolve_left (by simp);clear hf;by_cases hlt:P<Q
  ·have hltI:(P:Int)<(Q:Int):=by omega
   clear hf2;go_wp2_with fail;go_ret;exact⟨rfl,HE8.out⟩
  ·have hq2:=hf2.resolve_left hlt;have hltI:¬(P:Int)<(Q:Int):=(by omega);obtain⟨rfl,hxy⟩:=hq2;have hxyI:(x:Int)≤(y:Int):=(by omega);clear hf2;go_wp2_with fail;go_ret;exact⟨rfl,HE8.out⟩
theorem Canon.steps {P:Int→Prop}{hi:Int}:∀{lo:Int} {l:List Span},lo≤hi→Canon P hi lo l→Steps hi lo l
 |_,[],h0,_=>h0
 |_,_::_,_,h=>⟨h.1,h.2.1,h.2.2.1,Canon.steps h.2.2.1 h.2.2.2.2.2.2⟩
theorem Steps.take {hi:Int}:∀{lo:Int} {l:List Span} (k:Nat),Steps hi lo l→Steps hi lo (l.take k)
 |lo,l,0,h=>by rw[List.take_zero];exact h.hi
 |lo,[],k+1,h=>by rw[List.take_nil];exact h
 |lo,s::r,k+1,h=>by
  rw[List.take_succ_cons];exact⟨h.1,h.2.1,h.2.2.1,Steps.take k h.2.2.2⟩
theorem oneSp_in (l:List Span)(x:Int):QcD l x=if inSp l x=true then 1 else 0:=rfl
theorem oneSp_le (l:List Span)(x:Int):QcD l x≤1:=by unfold QcD;split<;>omega
theorem sumWd_le {f:Int→Nat}(hf:∀x,f x≤1){a b:Int}(hab:a≤b):((Qap f a b:Nat):Int)≤b-a:=by
 unfold Qap
 have:∀n:Nat,((List.range n).map fun(i:Nat)=>f (a+i)).sum≤n:=by
  intro n;induction n with
  |zero=>simp
  |succ n ih=>
   rw[List.range_succ,List.map_append,List.sum_append];have:=hf (a+n);simp only[List.map_cons,List.map_nil,List.sum_cons,List.sum_nil];omega
 have:=this (b-a).toNat;omega
theorem sumWd_step (f:Int→Nat){a:Int}{i:Nat}:Qap f a (a+((i+1:Nat):Int))=Qap f a (a+(i:Int))+f (a+(i:Int)):=by
 rw[QaL f (a:=a) (b:=a+(i:Int)) (c:=a+((i+1:Nat):Int)) (by omega) (by omega)];congr 1;unfold Qap;rw[show(a+((i+1:Nat):Int)-(a+(i:Int))).toNat=1 by omega];simp[List.range_succ]
theorem Qch (l:List Nat){k:Nat}(h:k<l.length):(l.take (k+1)).sum=(l.take k).sum+l[k]:=by
 rw[qT h,List.sum_append];simp
theorem Qc1 (l:List Nat)(k:Nat):(l.take k).sum≤l.sum:=by
 (conv=>rhs;rw[←List.take_append_drop k l,List.sum_append]);omega
def pgS (f:Int→Nat)(e v:Int)(p:PageP):Nat:=if ofV e v p=true then QbQ f (p.body++p.notes) else 0
def pgL (f:Int→Nat)(e v:Int)(ps:List PageP):List Nat:=ps.map (pgS f e v)
def lnL (f:Int→Nat)(l:List LineP):List Nat:=l.map fun x=>Qap f x.fr x.un
theorem pgL_step (f:Int→Nat)(e v:Int)(ps:List PageP){t:Nat}(h:t<ps.length):((pgL f e v ps).take (t+1)).sum=((pgL f e v ps).take t).sum+pgS f e v ps[t]:=by
 rw[Qch _ (by simpa[pgL] using h)];simp[pgL]
theorem lnL_step (f:Int→Nat)(l:List LineP){t:Nat}(h:t<l.length):((lnL f l).take (t+1)).sum=((lnL f l).take t).sum+Qap f l[t].fr l[t].un:=by
 rw[Qch _ (by simpa[lnL] using h)];simp[lnL]
theorem lnL_all (f:Int→Nat)(l:List LineP):(lnL f l).sum=QbQ f l:=rfl
def spS (l:List Span)(k:Nat):Int:=((l.take k).map fun s=>s.u-s.f).sum
theorem spS_step (l:List Span){k:Nat}(h:k<l.length):spS l (k+1)=spS l k+(l[k].u-l[k].f):=by
 unfold spS;rw[qT h,List.map_append,List.sum_append];simp
theorem spS_bd {l:List Span}{hi:Int}(h:Steps hi 0 l)(k:Nat):0≤spS l k∧spS l k≤hi:=by
 have h1:=QdE (h.take k);have h2:=sumWd_le (oneSp_le (l.take k)) h.hi;unfold spS;omega
theorem Qdc (a b:List (List Word)):tot (a++b)=tot a+tot b:=by unfold tot;simp
def gS (f:Int→Nat)(e v:Int)(p:PageP):Int→Nat:=if ofV e v p=true then f else fun _=>0
theorem sumWd_0 (a b:Int):Qap (fun _=>0) a b=0:=Qcs _ fun _ _ _=>rfl
theorem sumLn_0 (l:List LineP):QbQ (fun _=>0) l=0:=by
 unfold QbQ;induction l with
 |nil=>rfl
 |cons x l ih=>rw[List.map_cons,List.sum_cons,ih,sumWd_0]
theorem pgS_eq (f:Int→Nat)(e v:Int)(p:PageP):pgS f e v p=QbQ (gS f e v p) (p.body++p.notes):=by
 unfold pgS gS;split
 ·rfl
 ·rw[sumLn_0]
theorem sumWd_pre (f:Int→Nat){a b:Int}{i:Nat}(hi:i≤(b-a).toNat):Qap f a (a+(i:Int))≤Qap f a b:=by
 by_cases h:a≤b
 ·rw[QaL f (show a≤a+(i:Int) by omega) (show a+(i:Int)≤b by omega)];omega
 ·obtain rfl:i=0:=by omega
  rw[show a+((0:Nat):Int)=a by omega,Qbn];omega
theorem words_bd (f:Int→Nat)(e v:Int)(ps:List PageP){t:Nat}(ht:t<ps.length){L:List LineP}(hL:L=ps[t].body++ps[t].notes){u:Nat}(hu:u<L.length){i:Nat}(hi:i≤(L[u].un-L[u].fr).toNat):
 ((pgL f e v ps).take t).sum+(((lnL (gS f e v ps[t]) L).take u).sum+Qap (gS f e v ps[t]) L[u].fr (L[u].fr+(i:Int)))≤(pgL f e v ps).sum:=by
 have h1:=sumWd_pre (gS f e v ps[t]) hi;have h2:=lnL_step (gS f e v ps[t]) L hu;have h3:=Qc1 (lnL (gS f e v ps[t]) L) (u+1);have h4:=pgL_step f e v ps ht;have h5:=Qc1 (pgL f e v ps) (t+1);rw[lnL_all] at h3;rw[pgS_eq,←hL] at h4;omega
theorem line_end (f:Int→Nat)(e v:Int)(p:PageP){a b:Int}{i:Nat}(hi:i≤(b-a).toNat)(h:¬(p.entry=e∧p.ver=v)∨¬a+(i:Int)<b):Qap (gS f e v p) a (a+(i:Int))=Qap (gS f e v p) a b:=by
 rcases h with h|h
 ·have:ofV e v p=false:=decide_eq_false h;unfold gS;rw[if_neg (by simp[this]),sumWd_0,sumWd_0]
 ·by_cases hab:a≤b
  ·rw[show a+(i:Int)=b by omega]
  ·obtain rfl:i=0:=by omega
   rw[show a+((0:Nat):Int)=a by omega,Qbn];unfold Qap;rw[show(b-a).toNat=0 by omega];rfl
theorem gS_yes (f:Int→Nat){e v:Int}{p:PageP}(h:p.entry=e∧p.ver=v):gS f e v p=f:=by
 have:ofV e v p=true:=decide_eq_true h;unfold gS;rw[if_pos this]
theorem line_in {m h:Int}{l:List SectP}(H:GoodB m h l)(hz:Siz m h){i k:Nat}(hi:i<l.length)(hk:k<l[i].texts.length)(hv:k<l[i].vers.length)(hg:GText l[i].texts[k].a l[i].texts[k].b) {p:PageP} (hp:p∈Qaf m h l) (he:p.entry=l[i].entry∧p.ver=l[i].vers[k]):∀x∈p.body++p.notes,0≤x.fr∧x.fr<x.un∧x.un≤(tot (l[i].texts[k].a++l[i].texts[k].b):Nat):=by
 obtain⟨-,-,o3,o4,-⟩:=Qcu hg hz;have hc:=Qb9 (pagesV H hi hk hv);rw[←hc.1] at o3;rw[←hc.2] at o4;have hs:=Qdc l[i].texts[k].a l[i].texts[k].b;have hpf:p∈(Qaf m h l).filter (ofV l[i].entry l[i].vers[k]):=List.mem_filter.2 ⟨hp,decide_eq_true he⟩;intro x hx;rcases List.mem_append.1 hx with hx|hx
 ·have:=o3 x (List.mem_flatMap.2 ⟨p,hpf,hx⟩);omega
 ·have:=o4 x (List.mem_flatMap.2 ⟨p,hpf,hx⟩);omega
def LinesIn (ps:List PageP)(e v:Int)(N:Nat):Prop:=∀p∈ps,(p.entry=e∧p.ver=v)→∀x∈p.body++p.notes,0≤x.fr∧x.fr<x.un∧x.un≤(N:Int)
theorem lines_in {m h:Int}{l:List SectP}(H:GoodB m h l)(hz:Siz m h){i k:Nat}(hi:i<l.length)(hk:k<l[i].texts.length)(hv:k<l[i].vers.length)(hg:GText l[i].texts[k].a l[i].texts[k].b):
 LinesIn (Qaf m h l) l[i].entry l[i].vers[k] (tot (l[i].texts[k].a++l[i].texts[k].b)):=fun _ hp he=>line_in H hz hi hk hv hg hp he
theorem GBk.goodS {m h:Int}{l:List SectP}(H:GBk m h l):GoodB m h l:=chkE_good H.noerr
theorem GBk.sectS {m h:Int}{l:List SectP}(H:GBk m h l):∀s∈l,1≤s.vers.length:=fun s hs=>by
 obtain⟨f,hf⟩:=H.s;obtain⟨i,hi,rfl⟩:=List.getElem_of_mem hs;obtain⟨-,-,j,-,-,hv,ht,-⟩:=hf i hi;rw[hv,QaR];omega
def SP.plc (B k:Nat):SP:=⟨fun v w=>∃out,Own w B 59 v out∧Plc k out,fun _ _ _ ⟨o,h,hp⟩ hb=>⟨o,h.below hb,hp⟩⟩
def SP.hid (B:Nat)(sl:List Seal)(e v:Int)(N:Nat):SP:=⟨fun u w=>∃out,Own w B 52 u out∧Canon (cov sl e v) (N:Int) 0 out,fun _ _ _ ⟨o,h,hp⟩ hb=>⟨o,h.below hb,hp⟩⟩
set_option maxRecDepth 100000 in
theorem sealPages_any (A0:Option Addr)(c0:Nat)(l0:List Int)(An:Option Addr)(cn:Nat)(nu:List Int)(W1:World)(hs0:Sl W1 (fun b=>b<W1.heap.size) A0 c0 l0)(hs1:Sl W1 (fun b=>b<W1.heap.size) An cn nu)(hT:Tabs W1):
 Calls Tryd.prog 3 #[.slice A0 l0.length c0,.slice An nu.length cn] W1 fun e w'=>e=.returned (.bool true)∧Below W1.heap.size W1 w':=by
 have HT:=Lh hT;have HI0:=Lh hs0;have HI1:=Lh hs1;clear hT hs0 hs1;go_enter Tryd.func3,Tryd.ntmps3
 go_upto_region 2 with(first|(go_at_call 4;refine(gbook_any A0 c0 l0 W1 HI0.out).mono ?_;rintro e V1 ⟨m,h,Ab1,cb1,ss,rfl,hg,hs,hb⟩;have HG:=Lh hg;have HV1:=Lh hb;have hl:=LM.fresh (m:=m) (h:=h) (⟨HT.out.to hb,hs.mono fun i hi _=>hi.2⟩:SM V1 Ab1 cb1 ss);clear hg hs hb)|fail)
 obtain⟨W2,hW⟩:∃W2,V1.alloc (.cells #[.int .i64 m,.int .i64 h,.slice Ab1 ss.length cb1] 25)=W2:=⟨_,rfl⟩;obtain⟨b1,hbk⟩:∃b1,V1.heap.size=b1:=⟨_,rfl⟩;rw[hW] at hl;rw[hW,hbk];have hb:Below W1.heap.size W1 W2:=HV1.out.trans (hl.2.mono HV1.out.size);have H1v:=Lh hl.1;rw[hbk] at H1v;have HB:=Lh hb;clear hl hb hW hbk;have HZ:=Lh HG.out.siz;have HTM:=Lh HG.out.tame;refine Qaq [1,3] (fun i=>if i=1 then SP.own W2.heap.size 59 (Qbx nu) else if i=3 then SP.plc W2.heap.size (Qbx nu).length else SP.any) 5 (by kernel_rfl) (by kernel_rfl) ?_;intro T _ g hg hgm;have q0:∀d,(g d).cell? ⟨b1,0,none⟩=some (.int .i64 m):=fun d=>(H1v.out.bx.to (hg d)).cell 0 rfl
 have q1:∀d,(g d).cell? ⟨b1,1,none⟩=some (.int .i64 h):=fun d=>(H1v.out.bx.to (hg d)).cell 1 rfl
 have q2:∀d,(g d).cell? ⟨b1,2,none⟩=some (.slice Ab1 ss.length cb1):=fun d=>(H1v.out.bx.to (hg d)).cell 2 rfl
 (repeat(refine QaB (by rfl) fun Kq hq=>?_;go_big_quiet_step (fail);refine wpQuiet_nil (hq _ ?_);clear hq Kq));refine Qa7 (by rfl) (by rfl) (fun d hG K Q hK=>?_) (fun v1 d hG hp Kr hr=>?_)
 ·go_simp;go_at_call 6;refine(seals_any An cn nu (g d) (HI1.out.to (HB.out.trans ((hg d).mono HB.out.size)))).mono ?_;rintro e W1 ⟨v3,rfl,ho3,hb1⟩;go_simp;exact hK _ _ hb1 (show Own _ _ _ _ _ from ho3.re (hg d).size)
 obtain⟨As,cs,rfl,-⟩:=(show Own (g d) W2.heap.size 59 v1 (Qbx nu) from hp).form;(try clear hp);clear hG;go_frame;refine hr _ ?_;clear hr Kr;(repeat(refine QaB (by rfl) fun Kq hq=>?_;go_big_quiet_step (fail);refine wpQuiet_nil (hq _ ?_);clear hq Kq));refine Qa7 (by rfl) (by rfl) (fun d hG K Q hK=>?_) (fun v3 d hG hp Kr hr=>?_)
 ·obtain⟨As',cs',e5,hs5⟩:=(show Own (g d) W2.heap.size 59 (.slice As (Qbx nu).length cs) (Qbx nu) from hG 1 (by kernel_rfl)).sl;obtain⟨rfl,-,rfl⟩:As=As'∧True∧cs=cs':=by cases e5;exact⟨rfl,trivial,rfl⟩
  have hc:=placed_any As cs (Qbx nu) m h Ab1 cb1 ss (g d) hs5 ((H1v.out.sm.to (hg d)).s) (seals_le nu) (seals_small nu) HG.out.sectS;clear e5 hs5;go_simp;go_at_call 5;refine(hc).mono ?_;rintro e W1 ⟨v4,rfl,out,ho4,hpl,hb1⟩;go_simp;exact hK _ _ hb1 (show ∃out,Own _ _ _ _ out∧_ from⟨out,ho4.re (hg d).size,hpl⟩)
 (try clear hp);clear hG;go_frame;refine hr _ ?_;clear hr Kr;(repeat(refine QaB (by rfl) fun Kq hq=>?_;go_big_quiet_step (fail);refine wpQuiet_nil (hq _ ?_);clear hq Kq));refine wpR_end (by kernel_rfl) (fun d hG=>?_) _;obtain⟨sl,hso,hsp⟩:=(show ∃out,Own (g d) W2.heap.size 59 v3 out∧Plc (Qbx nu).length out from hG 3);have HSO:=Lh hso;have HSPL:=Lh hsp;obtain⟨Al,cl,rfl,hsl⟩:=HSO.out.sl;have HSL:=Lh hsl;clear hso hsp q0 q1 q2 hsl;have HBd:=Lh (hg d);clear hG hg hgm;unfold Exit.then;dsimp only;have H1u:=Lh (H1v.out.to HBd.out);have HB2:=Lh (HB.out.trans (HBd.out.mono HB.out.size));have hll:sl.length≤8:=Nat.le_trans HSPL.out.n (seals_le nu);obtain⟨nl,hnl⟩:∃nl,sl.length=nl:=⟨_,rfl⟩;rw[hnl] at hll;rw[hnl];have HNL:=Lh hnl;clear hnl HSO H1v HB;generalize g d=W3 at*;clear g;have HP:=Lh (pages_any (H1u.out.sm.bookT HTM.out HZ.out));have q0:=H1u.out.bx.cell 0 rfl;have q1:=H1u.out.bx.cell 1 rfl;have q2:=H1u.out.bx.cell 2 rfl
 go_upto_region 4 with(first|(go_at_call 7;refine HP.out.mono ?_;rintro e W4 ⟨v,R,rfl,ho,-,hb⟩;have HO:=Lh ho;have H1w:=Lh (H1u.out.to hb);have HB3:=Lh (HB2.out.trans (hb.mono HB2.out.size));have HSL4:=Lh (HSL.out.to hb);clear hb ho q0 q1 q2)|fail)
 obtain⟨Ap,cp,rfl,hps⟩:=HO.out.plain.sl;obtain⟨ps,hpp⟩:∃ps,Qaf m h ss=ps:=⟨_,rfl⟩;have HON:Hid (∀i k (hi:i<ss.length) (hk:k<ss[i].texts.length) (hv:k<ss[i].vers.length) (wd:Int),0≤wd→wd<(tot (ss[i].texts[k].a++ss[i].texts[k].b):Nat)→sumP ss[i].entry (ss[i].vers[k]) wd ps=1):=Lh (fun i k hi hk hv wd h0 h1=>by rw[←hpp];exact HG.out.once hi hk hv wd h0 h1);have HWS:Hid (∀i k (hi:i<ss.length) (hk:k<ss[i].texts.length) (hv:k<ss[i].vers.length) (f:Int→Nat),(pgL f ss[i].entry (ss[i].vers[k]) ps).sum=Qap f 0 (tot (ss[i].texts[k].a++ss[i].texts[k].b):Nat)):=Lh (fun i k hi hk hv f=>by rw[←hpp];exact words_sum HG.out.goodS HZ.out hi hk hv ((HTM.out.v _ (List.getElem_mem hi)).2.2 _ (List.getElem_mem hk)) f);have HFL:Hid (∀i k (hi:i<ss.length) (hk:k<ss[i].texts.length) (hv:k<ss[i].vers.length) (wd n1 s1 n2 s2:Int) (x y:Nat),Qal ss[i].entry ss[i].vers[k] wd ps=some (n1,s1,x)→Qal ss[i].entry ss[i].vers[k] (wd+1) ps=some (n2,s2,y)→Qau ps n1 s1<ps.length∧Qau ps n2 s2<ps.length∧(wd+1=(tot ss[i].texts[k].a:Nat)∨Qau ps n1 s1<Qau ps n2 s2∨(Qau ps n2 s2=Qau ps n1 s1∧x≤y))):=Lh (fun i k hi hk hv wd n1 s1 n2 s2 x y=>by rw[←hpp];exact follow_law HG.out.goodS HZ.out hi hk hv ((HTM.out.v _ (List.getElem_mem hi)).2.2 _ (List.getElem_mem hk)));have HBO:=Lh (H1w.out.sm.bookT HTM.out HZ.out);have HPP:=Lh hpp;have hpl:ps.length≤3920:=by rw[←hpp];exact HTM.out.pages HZ.out
 rw[hpp] at hps ⊢;have HPS:=Lh hps;have HSMP:Hid (∀p∈ps,SmallP p):=Lh (by rw[←hpp];exact pages_smallB m h ss);have HIN:Hid (∀i k (hi:i<ss.length) (hk:k<ss[i].texts.length) (hv:k<ss[i].vers.length),LinesIn ps ss[i].entry ss[i].vers[k] (tot (ss[i].texts[k].a++ss[i].texts[k].b))):=Lh (fun i k hi hk hv=>by rw[←hpp];exact lines_in HG.out.goodS HZ.out hi hk hv ((HTM.out.v _ (List.getElem_mem hi)).2.2 _ (List.getElem_mem hk)));obtain⟨np,hnp⟩:∃np,ps.length=np:=⟨_,rfl⟩;have HNP:=Lh hnp;have hpc:np≤cp:=by rw[←hnp];exact hps.1
 rw[hnp] at hpl ⊢;obtain⟨n,hn⟩:∃n,ss.length=n:=⟨_,rfl⟩;have HN:=Lh hn;have hn5:n≤5:=by rw[←hn];exact HTM.out.n
 have hnc:n≤cb1:=by rw[←hn];exact H1w.out.sm.s.1
 have H1x:Hid (ABox W4 b1 25 [.int .i64 m,.int .i64 h,.slice Ab1 n cb1]):=Lh (by rw[←hn];exact H1w.out.bx);have HSS:=Lh H1w.out.sm.s;clear hps hpp hnp hn HO HP H1u HSL;go_wp2_with fail;go_loopw [8] (fun i wr=>∃k:Nat,k≤n∧i=.int .i64 k∧Below W4.heap.size W4 wr) (fun i _=>n-(intOf i).toNat);(case atStart=>exact⟨0,by omega,rfl,Below.refl _ _⟩);case round=>
  obtain⟨k,hk,rfl,hbl⟩:=hrel;have HBL:=Lh hbl;have x2:=(H1x.out.to hbl).cell 2 rfl;by_cases hlt:k<n
  ·have hkl:k<ss.length:=by rw[HN.out];exact hlt
   obtain⟨b,o,Ag,cg,An2,cn2,rfl,-,-,e0,e1,e2,e3,hg1,hn1,-⟩:=sect_at (HSS.out.to hbl) hkl;have htv:=HTM.out.v _ (List.getElem_mem hkl);obtain⟨x,hx⟩:∃x,ss[k]=x:=⟨_,rfl⟩;have hon:∀q (hk:q<x.texts.length) (hv:q<x.vers.length) (wd:Int),0≤wd→wd<(tot (x.texts[q].a++x.texts[q].b):Nat)→sumP x.entry x.vers[q] wd ps=1:=by subst hx;exact fun q hk hv=>HON.out k q hkl hk hv
   have hws:∀q (hk:q<x.texts.length) (hv:q<x.vers.length) (f:Int→Nat),(pgL f x.entry x.vers[q] ps).sum=Qap f 0 (tot (x.texts[q].a++x.texts[q].b):Nat):=by subst hx;exact fun q hk hv=>HWS.out k q hkl hk hv
   have hfl:∀q (hk:q<x.texts.length) (hv:q<x.vers.length) (wd n1 s1 n2 s2:Int) (y z:Nat),Qal x.entry x.vers[q] wd ps=some (n1,s1,y)→Qal x.entry x.vers[q] (wd+1) ps=some (n2,s2,z)→Qau ps n1 s1<ps.length∧Qau ps n2 s2<ps.length∧(wd+1=(tot x.texts[q].a:Nat)∨Qau ps n1 s1<Qau ps n2 s2∨(Qau ps n2 s2=Qau ps n1 s1∧y≤z)):=by subst hx;exact fun q hk hv=>HFL.out k q hkl hk hv
   have hin:∀q (hk:q<x.texts.length) (hv:q<x.vers.length),LinesIn ps x.entry x.vers[q] (tot (x.texts[q].a++x.texts[q].b)):=by subst hx;exact fun q hk hv=>HIN.out k q hkl hk hv
   rw[hx] at e0 e1 e2 e3 hg1 hn1 htv;have HINx:=Lh hin;have HTV:=Lh htv;have HONx:=Lh hon;have HWSx:=Lh hws;have HFLx:=Lh hfl;clear hon hws hfl hin;obtain⟨X,hX⟩:∃X,wr.heap.size=X:=⟨_,rfl⟩;obtain⟨w2,hw2⟩:∃w2,wr.alloc (.cells #[.int .i64 x.entry,.bool x.frozen,.slice Ag x.vers.length cg,.slice An2 x.texts.length cn2] 34)=w2:=⟨_,rfl⟩;have hb2:Below wr.heap.size wr w2:=(by rw[←hw2];exact bR.alloc nL _);have hxx:ABox w2 X 34 [.int .i64 x.entry,.bool x.frozen,.slice Ag x.vers.length cg,.slice An2 x.texts.length cn2]:=(by rw[←hw2,←hX];exact heap_alloc_new wr _);have HV:=Lh (hg1.to hb2);have HX:=Lh (hn1.to hb2);have HXX:=Lh hxx;have hkI:(k:Int)<(n:Int):=(by omega);have HB4:=Lh (hbl.trans (hb2.mono hbl.size));have hvl:x.vers.length≤4:=htv.1;have htl:x.texts.length≤x.vers.length:=htv.2.1;have htc:x.texts.length≤cn2:=hn1.1;have hvc:x.vers.length≤cg:=hg1.1;go_upto_region 8 with(fail);(try rw[hX]);(try rw[hw2]);clear hX hw2 hxx hb2 hg1 hn1 e0 e1 e2 e3 hx hkl hbl x2 htv HBL;go_wp2_with fail;obtain⟨wo,rfl⟩:∃wo:World,wo=wr:=⟨_,rfl⟩;go_loopw [10] (fun i wx=>∃q:Nat,q≤x.texts.length∧i=.int .i64 q∧Below w2.heap.size w2 wx) (fun i _=>x.texts.length-(intOf i).toNat);(case atStart=>exact⟨0,by omega,rfl,Below.refl _ _⟩);case round=>
    obtain⟨q,hq,rfl,hbl⟩:=hrel;have HBL:=Lh hbl;have HXr:=Lh (HXX.out.to hbl);have y3:=HXr.out.cell 3 rfl;by_cases hqt:q<x.texts.length
    ·have hqv:q<x.vers.length:=by omega
     obtain⟨bt,ot,Aa,ca,Ab,cb,rfl,-,hbt,e0,e1,ht1,ht2⟩:=text_at (HX.out.to hbl) hqt;obtain⟨bv,ov,rfl,-,hbv,-,e9⟩:=QbK (HV.out.to hbl) hqv;have hgt:=HTV.out.2.2 _ (List.getElem_mem hqt);have hon:=HONx.out q hqt hqv;have hws:=HWSx.out q hqt hqv;have hfl:=HFLx.out q hqt hqv;have hin:=HINx.out q hqt hqv;obtain⟨y,hy⟩:∃y,x.texts[q]=y:=⟨_,rfl⟩;obtain⟨vq,hvq⟩:∃vq,x.vers[q]=vq:=⟨_,rfl⟩;rw[hvq] at e9 hon hws hfl hin;rw[hy] at e0 e1 ht1 ht2 hgt hon hws hfl hin;have HGT:=Lh hgt;have HONy:=Lh hon;have HWSy:=Lh hws;have HFLy:=Lh hfl;have HINy:=Lh hin;obtain⟨N,hNt⟩:∃N,tot (y.a++y.b)=N:=⟨_,rfl⟩;have hN196:N≤196:=(by rw[←hNt];exact hgt.tot);have HNt:=Lh hNt;have HT1:Hid (TM wr Aa ca Ab cb y.a y.b):=Lh ⟨ht1,ht2,hgt.short.1,hgt.short.2⟩;have HE:Hid (∀w',Below wr.heap.size wr w'→(w'.cell? ⟨bt,ot+q*2,none⟩=some (.slice Aa y.a.length ca)∧w'.cell? ⟨bt,ot+q*2+1,none⟩=some (.slice Ab y.b.length cb))∧w'.cell? ⟨bv,ov+q,none⟩=some (.int .i64 vq)):=Lh (fun w' hb=>⟨⟨(hb.cell (p:=⟨bt,ot+q*2,none⟩) hbt).trans e0,(hb.cell (p:=⟨bt,ot+q*2+1,none⟩) hbt).trans e1⟩,(hb.cell (p:=⟨bv,ov+q,none⟩) hbv).trans e9⟩);have hqI:(q:Int)<(x.texts.length:Int):=(by omega);have hqvI:(q:Int)<(x.vers.length:Int):=(by omega);have HBg:Hid (Below W4.heap.size W4 wr):=Lh (HB4.out.trans (hbl.mono HB4.out.size));have HCT:=Lh (count_any Aa Ab ca cb y.a y.b wr (HT1.out.ta) (HT1.out.tb) HT1.out.sa.1 HT1.out.sb.1 (by rw[HNt.out];omega));rw[HNt.out] at HCT;clear hy ht1 ht2 hgt hvq hon hNt hbt hbv hws hfl hbl hin;go_upto_region 12 with(first|(go_at_call 8;refine HCT.out.mono ?_;rintro e wc ⟨rfl,hbc⟩)|fail);have HBC:=Lh hbc;have HXc:=Lh (HXr.out.to hbc);clear y3 e0 e1 e9 hbc HCT
     have HWF:Hid (∀V,Below wc.heap.size wc V→(V.cell? ⟨X,0,none⟩=some (.int .i64 x.entry)∧V.cell? ⟨X,2,none⟩=some (.slice (some ⟨bv,ov,none⟩) x.vers.length cg)∧V.cell? ⟨X,3,none⟩=some (.slice (some ⟨bt,ot,none⟩) x.texts.length cn2))∧V.cell? ⟨bv,ov+q,none⟩=some (.int .i64 vq)∧V.cell? ⟨bt,ot+q*2,none⟩=some (.slice Aa y.a.length ca)):=Lh (fun V hV=>by
      have hxx:=HXc.out.to hV
      have he:=HE.out V (HBC.out.trans (hV.mono HBC.out.size))
      exact⟨⟨hxx.cell 0 rfl,hxx.cell 2 rfl,hxx.cell 3 rfl⟩,he.2,he.1.1⟩)
     have HBc4:Hid (Below W4.heap.size W4 wc):=Lh (HBg.out.trans (HBC.out.mono HBg.out.size));refine Qaq [9] (fun i=>if i=9 then SP.hid wc.heap.size sl x.entry vq N else SP.any) 11 (by kernel_rfl) (by kernel_rfl) ?_;intro T _ g hg hgm;have q0:∀d,(g d).cell? ⟨X,0,none⟩=some (.int .i64 x.entry):=fun d=>(HWF.out _ (hg d)).1.1
     have q2:∀d,(g d).cell? ⟨X,2,none⟩=some (.slice (some ⟨bv,ov,none⟩) x.vers.length cg):=fun d=>(HWF.out _ (hg d)).1.2.1
     have q9:∀d,(g d).cell? ⟨bv,ov+q,none⟩=some (.int .i64 vq):=fun d=>(HWF.out _ (hg d)).2.1
     (repeat(refine QaB (by rfl) fun Kq hq=>?_;go_big_quiet_step (fail);refine wpQuiet_nil (hq _ ?_);clear hq Kq));refine Qa7 (by rfl) (by rfl) (fun d hG K Q hK=>?_) (fun v9 d hG hp Kr hr=>?_)
     ·go_simp;go_at_call 9;refine(hidden_c Al cl nl sl x.entry vq (N:Int) (g d) ((HSL4.out.to HBc4.out).to (hg d)) HNL.out (by omega) ⟨by omega,by omega⟩ HSPL.out.f).mono ?_;rintro e W1 ⟨v5,out,rfl,hcan,ho5,hb1⟩;go_simp;exact hK _ _ hb1 (⟨out,ho5.re (hg d).size,hcan⟩)
     (try clear hp);clear hG;go_frame;refine hr _ ?_;clear hr Kr;(repeat(refine QaB (by rfl) fun Kq hq=>?_;go_big_quiet_step (fail);refine wpQuiet_nil (hq _ ?_);clear hq Kq));refine wpR_end (by kernel_rfl) (fun d hG=>?_) _;obtain⟨hs,hho,hcan⟩:=(show ∃out,Own (g d) wc.heap.size 52 v9 out∧Canon (cov sl x.entry vq) (N:Int) 0 out from hG 9);obtain⟨Ah,ch,rfl,hsl⟩:=hho.sl;have HST:=Lh (hcan.steps (show(0:Int)≤(N:Int) by omega));have HHS:=Lh hsl;clear hho hcan q0 q2 q9 hsl;have HBd:=Lh (hg d);clear hG hg hgm;unfold Exit.then;dsimp only;have HBw:Hid (Below W4.heap.size W4 (g d)):=Lh (HBc4.out.trans (HBd.out.mono HBc4.out.size));have HWG:Hid (∀V,Below (g d).heap.size (g d) V→(V.cell? ⟨X,0,none⟩=some (.int .i64 x.entry)∧V.cell? ⟨X,2,none⟩=some (.slice (some ⟨bv,ov,none⟩) x.vers.length cg)∧V.cell? ⟨X,3,none⟩=some (.slice (some ⟨bt,ot,none⟩) x.texts.length cn2))∧V.cell? ⟨bv,ov+q,none⟩=some (.int .i64 vq)∧V.cell? ⟨bt,ot+q*2,none⟩=some (.slice Aa y.a.length ca)):=Lh (fun V hV=>HWF.out V (HBd.out.trans (hV.mono HBd.out.size)));have HTa:Hid (Sl (g d) (fun b=>b<(g d).heap.size) Aa ca y.a):=Lh (((HT1.out.to HBC.out).to HBd.out).ta);have HTx:Hid (Below w2.heap.size w2 (g d)):=Lh ((HBL.out.trans (HBC.out.mono HBL.out.size)).trans (HBd.out.mono (Nat.le_trans HBL.out.size HBC.out.size)));have hsh:=HT1.out.sa;clear HWF HBc4 HBd HXc HXr HBC HBg HE HT1 HBL;generalize g d=wh at*;clear g;obtain⟨nh,hnh⟩:∃nh,hs.length=nh:=⟨_,rfl⟩;have HNH:=Lh hnh;have hnhc:nh≤ch:=(by rw[←hnh];exact HHS.out.1);have hchm:ch≤maxLen:=HHS.out.2.1;have hnh63:nh≤9223372036854775807:=(by unfold maxLen at hchm;omega);rw[hnh];clear hnh hchm;obtain⟨na,hna⟩:∃na,y.a.length=na:=⟨_,rfl⟩;have HNA:=Lh hna;rw[hna] at HWG;have hna63:na≤9223372036854775807:=(by have:=HTa.out.1;have:=HTa.out.2.1;unfold maxLen at this;omega);clear hna;go_wp2_with fail;go_loopw [13,14] (fun s i wx=>∃j:Nat,j≤na∧i=.int .i64 j∧s=.int .i64 (tot (y.a.take j):Nat)∧Below wh.heap.size wh wx) (fun _ i _=>na-(intOf i).toNat);(case atStart=>exact⟨0,by omega,rfl,rfl,Below.refl _ _⟩);case round=>
      obtain⟨j,hj,rfl,rfl,hbl⟩:=hrel;have HBL:=Lh hbl;obtain⟨⟨z0,z2,z3⟩,z9,za⟩:=HWG.out _ hbl;by_cases hjn:j<na
      ·have hjl:j<y.a.length:=by rw[HNA.out];exact hjn
       obtain⟨bA,oA,Ar,cr,rfl,-,hbl2,hc,hp⟩:=Qbw (HTa.out.to hbl) hjl;have hts:=QcV y.a j hjl;have htl:=tot_le y.a (j+1);have htN:tot y.a≤N:=(by have:=HNt.out;rw[Qdc] at this;omega);obtain⟨lj,hlj⟩:∃lj,y.a[j].length=lj:=⟨_,rfl⟩;rw[hlj] at hc hts;obtain⟨T0,hT0⟩:∃T,tot (y.a.take j)=T:=⟨_,rfl⟩;obtain⟨T1,hT1⟩:∃T,tot (y.a.take (j+1))=T:=⟨_,rfl⟩;rw[hT0,hT1] at hts;rw[hT1] at htl;rw[hT0];have HT1:=Lh hT1;have hsum:(T0:Int)+(lj:Int)=(T1:Int):=(by omega);have hT196:(T1:Int)≤196:=(by omega);have HSU:=Lh hsum;have hjI:(j:Int)<(na:Int):=(by omega);clear hjl hp hlj hT0 hT1 hts htl htN hsum;have h0l:(0:Int)≤(T0:Int):=(by omega);have hlI:(lj:Int)≤196-(T0:Int):=(by have:=HSU.out;omega);go_wp2_with fail;go_roundw;(case rel=>exact⟨j+1,by omega,by go_num,by rw[HT1.out];first|(rw[HSU.out];done)|(congr 1;have:=HSU.out;unfold wrap64;omega),HBL.out⟩);case measure=>simp[intOf];omega
      ·obtain rfl:j=na:=by omega
       have htt:y.a.take j=y.a:=List.take_of_length_le (Nat.le_of_eq HNA.out);rw[htt];clear htt hbl;obtain⟨mid,hmid⟩:∃mid,tot y.a=mid:=⟨_,rfl⟩;have HMID:=Lh hmid;have hmN:mid≤N:=(by have:=HNt.out;rw[Qdc,hmid] at this;omega);rw[hmid];clear hmid;have HW5:=Lh (HBw.out.trans (HBL.out.mono HBw.out.size))
       have HWR:Hid (∀V,Below wr.heap.size wr V→(V.cell? ⟨X,0,none⟩=some (.int .i64 x.entry)∧V.cell? ⟨X,2,none⟩=some (.slice (some ⟨bv,ov,none⟩) x.vers.length cg)∧V.cell? ⟨X,3,none⟩=some (.slice (some ⟨bt,ot,none⟩) x.texts.length cn2))∧V.cell? ⟨bv,ov+q,none⟩=some (.int .i64 vq)):=Lh (fun V hV=>by
        obtain⟨h1,h2,-⟩:=HWG.out V (HBL.out.trans (hV.mono HBL.out.size))
        exact⟨h1,h2⟩)
       have HPS5:=Lh (HPS.out.to HW5.out);have HHS5:=Lh (HHS.out.to HBL.out);have HTx5:=Lh (HTx.out.trans (HBL.out.mono HTx.out.size));obtain⟨f,hf⟩:∃f,QcD hs=f:=⟨_,rfl⟩;have hws:=HWSy.out f;rw[HNt.out] at hws;have HTOT:Hid ((pgL f x.entry vq ps).sum=Qap f 0 (N:Nat)):=Lh hws;have hf1:∀z,f z≤1:=fun z=>by rw[←hf];exact oneSp_le hs z
       have HF:=Lh hf;have HT196:Hid ((pgL f x.entry vq ps).sum≤196):=Lh (by have h1:=sumWd_le hf1 (show(0:Int)≤(N:Int) by omega);rw[hws];omega);clear hf hws hf1 HWG HTa HBw HHS HTx HBL;go_wp2_with fail;obtain⟨wz,rfl⟩:∃wz:World,wz=wr:=⟨_,rfl⟩;go_loopw [15,16] (fun s i wx=>∃t:Nat,t≤np∧i=.int .i64 t∧s=.int .i64 (((pgL f x.entry vq ps).take t).sum:Nat)∧Below wz.heap.size wz wx) (fun _ i _=>np-(intOf i).toNat);(case atStart=>exact⟨0,by omega,rfl,rfl,Below.refl _ _⟩);case round=>
        obtain⟨t,ht,rfl,rfl,hbl⟩:=hrel;by_cases htn:t<np
        ·have htl:t<ps.length:=by rw[HNP.out];exact htn
         obtain⟨bp,op,P1,d1,P2,d2,rfl,-,hbp,f0,f1,f2,f3,f4,f5,hp1,hp2⟩:=pageS_at (HPS5.out.to hbl) htl;have hsm:=HSMP.out ps[t] (List.getElem_mem htl);have hli:=HINy.out ps[t] (List.getElem_mem htl);rw[HNt.out] at hli;have hpt:=pgL_step f x.entry vq ps htl;rw[pgS_eq] at hpt;have hbd:∀(L:List LineP),L=ps[t].body++ps[t].notes→∀u (hu:u<L.length) (i:Nat),i≤(L[u].un-L[u].fr).toNat→((pgL f x.entry vq ps).take t).sum+(((lnL (gS f x.entry vq ps[t]) L).take u).sum+Qap (gS f x.entry vq ps[t]) L[u].fr (L[u].fr+(i:Int)))≤196:=fun L hL u hu i hi=>Nat.le_trans (words_bd f x.entry vq ps htl hL hu hi) HT196.out
         have hend:=fun(a b:Int) (i:Nat) (hi:i≤(b-a).toNat) (hh:¬(ps[t].entry=x.entry∧ps[t].ver=vq)∨¬a+(i:Int)<b)=>line_end f x.entry vq ps[t] hi hh
         have hgy:=fun(hh:ps[t].entry=x.entry∧ps[t].ver=vq)=>gS_yes f (e:=x.entry) (v:=vq) (p:=ps[t]) hh
         obtain⟨gg,hgg⟩:∃gg,gS f x.entry vq ps[t]=gg:=⟨_,rfl⟩;rw[hgg] at hpt;simp only[hgg] at hbd hend hgy;obtain⟨pg,hpg⟩:∃pg,ps[t]=pg:=⟨_,rfl⟩;rw[hpg] at f0 f1 f2 f3 f4 f5 hp1 hp2 hsm hpt hli;simp only[hpg] at hbd hend hgy;obtain⟨en,vn,sn,un,bo,no⟩:=pg;dsimp only at f0 f1 f2 f3 f4 f5 hp1 hp2 hsm hpt hli hbd hend hgy;obtain⟨A1,hA1⟩:∃A,((pgL f x.entry vq ps).take t).sum=A:=⟨_,rfl⟩;simp only[hA1] at hbd;rw[hA1] at hpt ⊢;have HPT:=Lh hpt;have HBD:=Lh hbd;have HEND:=Lh hend;have HGY:=Lh hgy;have HLI:=Lh hli;have HL1:=Lh hp1;have HL2:=Lh hp2;have HSM2:=Lh hsm;have HBZ:=Lh hbl;have htI:(t:Int)<(np:Int):=by omega
         have HFC:Hid (∀V,Below wr.heap.size wr V→V.cell? ⟨bp,op+t*6+2,none⟩=some (.int .i64 sn)∧V.cell? ⟨bp,op+t*6+3,none⟩=some (.int .i64 un)):=Lh (fun V hV=>⟨(hV.cell (p:=⟨bp,op+t*6+2,none⟩) hbp).trans f2,(hV.cell (p:=⟨bp,op+t*6+3,none⟩) hbp).trans f3⟩);clear hpt hbd hend hgy hli hp1 hp2 hsm hbl hgg hpg hA1 htl;go_upto_region 23 with(first|(go_at_call 10;refine(lines28_any en vn sn un P1 P2 d1 d2 bo no wr HL1.out HL2.out HSM2.out.1 HSM2.out.2).mono ?_;rintro e wl ⟨v,rfl,ho,hb⟩)|fail);obtain⟨AL,cL,rfl,hsL⟩:=ho.sl;have HSLn:=Lh hsL;have HBl:=Lh hb;obtain⟨L,hL⟩:∃L,bo++no=L:=⟨_,rfl⟩;have HBD2:Hid (∀u (hu:u<L.length) (i:Nat),i≤(L[u].un-L[u].fr).toNat→A1+(((lnL gg L).take u).sum+Qap gg L[u].fr (L[u].fr+(i:Int)))≤196):=Lh (HBD.out L hL.symm);rw[hL] at HPT HLI HSLn;rw[hL];obtain⟨nL,hnL⟩:∃nL,L.length=nL:=⟨_,rfl⟩;have HNL2:=Lh hnL;rw[hnL];have hnL63:nL≤9223372036854775807:=(by have:=HSLn.out.1;have:=HSLn.out.2.1;unfold maxLen at this;omega);clear ho hsL hb f0 f1 f2 f3 f4 f5 hL hnL HBD HL1 HL2 HSM2;go_wp2_with fail;go_loopw [15,18] (fun s i wx=>∃u:Nat,u≤nL∧i=.int .i64 u∧s=.int .i64 ((A1+((lnL gg L).take u).sum:Nat):Int)∧Below wl.heap.size wl wx) (fun _ i _=>nL-(intOf i).toNat);(case atStart=>exact⟨0,by omega,rfl,by simp,Below.refl _ _⟩);case round=>
          obtain⟨u,hu,rfl,rfl,hbl⟩:=hrel;by_cases hun:u<nL
          ·have hul:u<L.length:=by rw[HNL2.out];exact hun
           obtain⟨bL,oL,Ag2,cg2,An3,cn3,rfl,-,hbL,g0,g1,-,-,-,-⟩:=Qcr (HSLn.out.to hbl) hul;have hls:=lnL_step gg L hul;have hbd:=HBD2.out u hul;have hli:(sn=x.entry∧un=vq)→0≤L[u].fr∧L[u].fr<L[u].un∧L[u].un≤(N:Nat):=fun h=>HLI.out h _ (List.getElem_mem hul)
           obtain⟨ln,hln⟩:∃ln,L[u]=ln:=⟨_,rfl⟩;rw[hln] at g0 g1 hls hli hbd;obtain⟨lf,lu,lg,lx⟩:=ln;dsimp only at g0 g1 hls hli hbd;obtain⟨B1,hB1⟩:∃B,((lnL gg L).take u).sum=B:=⟨_,rfl⟩;rw[hB1] at hls hbd;rw[hB1];have HLS:=Lh hls;have HLI2:=Lh hli;have HBD3:=Lh hbd;have HBY:=Lh hbl;have hfc:=HFC.out _ (HBl.out.trans (hbl.mono HBl.out.size));have HLC:Hid (∀V,Below wr.heap.size wr V→V.cell? ⟨bL,oL+u*4+1,none⟩=some (.int .i64 lu)):=Lh (fun V hV=>(hV.cell (p:=⟨bL,oL+u*4+1,none⟩) hbL).trans g1);have huI:(u:Int)<(nL:Int):=(by omega);have hB0:(0:Int)≤((A1+B1:Nat):Int):=(by omega);clear hls hli hbl hln hB1 hul hbd hfc;go_upto_region 27 with(fail);clear g0 g1;obtain⟨wy,rfl⟩:∃wy:World,wy=wr:=⟨_,rfl⟩;go_loopw [15,19] (fun s i wx=>∃c:Nat,c≤(lu-lf).toNat∧i=.int .i64 (lf+(c:Int))∧s=.int .i64 ((A1+(B1+Qap gg lf (lf+(c:Int))):Nat):Int)∧Below wy.heap.size wy wx) (fun _ i _=>(lu-intOf i).toNat);(case atStart=>exact⟨0,by omega,by simp,by simp[Qbn],Below.refl _ _⟩);case round=>
            obtain⟨c,hc,rfl,rfl,hbl⟩:=hrel;have HBX:=Lh hbl;have hbd:=HBD3.out c hc;obtain⟨S0,hS0⟩:∃S,A1+(B1+Qap gg lf (lf+(c:Int)))=S:=⟨_,rfl⟩;rw[hS0] at hbd ⊢;have HS0:=Lh hS0;have k0:=HLC.out _ hbl;obtain⟨k2,k3⟩:=HFC.out _ (HBl.out.trans ((HBY.out.trans (hbl.mono HBY.out.size)).mono HBl.out.size));obtain⟨⟨m0,m2,-⟩,m9⟩:=HWR.out _ (HBZ.out.trans ((HBl.out.trans ((HBY.out.trans (hbl.mono HBY.out.size)).mono HBl.out.size)).mono HBZ.out.size));clear hS0 hbl;by_cases hm1:sn=x.entry
            ·by_cases hm2:un=vq
             ·have hli2:=HLI2.out ⟨hm1,hm2⟩;have hgf:=HGY.out ⟨hm1,hm2⟩;subst hm1 hm2;by_cases hlw:lf+(c:Int)<lu
              ·have hst:=sumWd_step gg (a:=lf) (i:=c);rw[hgf] at hst;rw[←HF.out] at hst;rw[oneSp_in] at hst;rw[HF.out,←hgf] at hst;have HST2:=Lh hst;have HGF:=Lh hgf;clear hst hgf;go_upto_region 29 with(first|go_quiet (fail)|fail);have HHX:=Lh ((HHS5.out.to (HBZ.out.trans ((HBl.out.trans ((HBY.out.trans (HBX.out.mono HBY.out.size)).mono HBl.out.size)).mono HBZ.out.size))).dn nq);have hS0:(0:Int)≤(S0:Int):=(by omega);have HBN:=Lh (Below.dn HBX.out nq);have hlb:lf+(c:Int)+1≤196:=(by omega);have hlb0:0≤lf+(c:Int):=(by omega);have hcl:c+1≤(lu-lf).toNat:=(by omega);have hw:=within_any Ah ch nh hs (lf+(c:Int)) (wr.drewN nq) HHX.out HNH.out;by_cases hin:inSp hs (lf+(c:Int))=true
               ·have HS1:Hid (A1+(B1+Qap gg lf (lf+((c+1:Nat):Int)))=S0+1):=Lh (by have h1:=HST2.out;rw[hin,if_pos rfl] at h1;have h2:=HS0.out;omega);rw[hin] at hw;have HWC:=Lh hw;clear HST2 HHX hin hw hli2;go_wp2_with (first|(go_at_call 11;refine HWC.out.mono ?_;rintro e wv ⟨rfl,rfl⟩)|fail);go_roundw;(case rel=>exact⟨c+1,hcl,by first|go_num|(congr 1;push_cast;omega),by rw[HS1.out];first|go_num|(congr 1;push_cast;omega),HBN.out⟩);case measure=>simp[intOf];omega
               ·have hin2:inSp hs (lf+(c:Int))=false:=by simpa using hin
                have HS1:Hid (A1+(B1+Qap gg lf (lf+((c+1:Nat):Int)))=S0):=Lh (by have h1:=HST2.out;rw[hin2,if_neg (by simp)] at h1;have h2:=HS0.out;omega);rw[hin2] at hw;have HWC:=Lh hw;clear HST2 HHX hin hin2 hw hli2;go_wp2_with (first|(go_at_call 11;refine HWC.out.mono ?_;rintro e wv ⟨rfl,rfl⟩)|fail);go_roundw;(case rel=>exact⟨c+1,hcl,by first|go_num|(congr 1;push_cast;omega),by rw[HS1.out],HBN.out⟩);case measure=>simp[intOf];omega
              ·have hee:=HEND.out lf lu c hc (Or.inr (by omega));have HS1:Hid (S0=A1+((lnL gg L).take (u+1)).sum):=Lh (by have h2:=HS0.out;rw[hee] at h2;rw[HLS.out];omega);clear hee hli2 hgf;go_wp2_with (first|go_quiet (fail)|fail);go_roundw;(case rel=>exact⟨u+1,by omega,by go_num,by rw[HS1.out],Below.dn (HBY.out.trans (HBX.out.mono HBY.out.size)) _⟩);case measure=>simp[intOf];omega
             ·have hee:=HEND.out lf lu c hc (Or.inl (fun hh=>hm2 hh.2));have HS1:Hid (S0=A1+((lnL gg L).take (u+1)).sum):=Lh (by have h2:=HS0.out;rw[hee] at h2;rw[HLS.out];omega);clear hee;subst hm1;go_wp2_with (first|go_quiet (fail)|fail);go_roundw;(case rel=>exact⟨u+1,by omega,by go_num,by rw[HS1.out],Below.dn (HBY.out.trans (HBX.out.mono HBY.out.size)) _⟩);case measure=>simp[intOf];omega
            ·have hee:=HEND.out lf lu c hc (Or.inl (fun hh=>hm1 hh.1));have HS1:Hid (S0=A1+((lnL gg L).take (u+1)).sum):=Lh (by have h2:=HS0.out;rw[hee] at h2;rw[HLS.out];omega);clear hee;go_wp2_with (first|go_quiet (fail)|fail);go_roundw;(case rel=>exact⟨u+1,by omega,by go_num,by rw[HS1.out],Below.dn (HBY.out.trans (HBX.out.mono HBY.out.size)) _⟩);case measure=>simp[intOf];omega
          ·obtain rfl:u=nL:=by omega
           have hee:(lnL gg L).take u=lnL gg L:=List.take_of_length_le (by unfold lnL;rw[qM];exact Nat.le_of_eq HNL2.out);have HS1:Hid (A1+((lnL gg L).take u).sum=((pgL f x.entry vq ps).take (t+1)).sum):=Lh (by rw[hee,lnL_all,HPT.out]);rw[HS1.out];have HBE:=Lh (HBZ.out.trans ((HBl.out.trans (hbl.mono HBl.out.size)).mono HBZ.out.size));clear hee hbl;go_wp2_with fail;go_roundw;(case rel=>exact⟨t+1,by omega,by go_num,rfl,HBE.out⟩);case measure=>simp[intOf];omega
        ·obtain rfl:np=t:=by omega
         have hee:(pgL f x.entry vq ps).take np=pgL f x.entry vq ps:=List.take_of_length_le (by unfold pgL;rw[qM];exact Nat.le_of_eq HNP.out);rw[hee,HTOT.out];clear hee;have HW9:Hid (Below W4.heap.size W4 wr):=Lh (HW5.out.trans (hbl.mono HW5.out.size));have HHS9:=Lh (HHS5.out.to hbl);have HPS9:=Lh (HPS5.out.to hbl);have HTx9:=Lh (HTx5.out.trans (hbl.mono HTx5.out.size));have HWR9:Hid (∀V,Below wr.heap.size wr V→(V.cell? ⟨X,0,none⟩=some (.int .i64 x.entry)∧V.cell? ⟨X,2,none⟩=some (.slice (some ⟨bv,ov,none⟩) x.vers.length cg)∧V.cell? ⟨X,3,none⟩=some (.slice (some ⟨bt,ot,none⟩) x.texts.length cn2))∧V.cell? ⟨bv,ov+q,none⟩=some (.int .i64 vq)):=Lh (fun V hV=>HWR.out V (hbl.trans (hV.mono hbl.size)));have H1y:=Lh (H1x.out.to HW9.out);have HBO9:=Lh (HBO.out.to HW9.out)
         have HSUM:Hid (((Qap f 0 (N:Nat):Nat):Int)=spS hs nh):=Lh (by
          rw[←HF.out,QdE HST.out];unfold spS;rw[List.take_of_length_le (Nat.le_of_eq HNH.out)])
         have hsn:0≤spS hs nh∧spS hs nh≤(N:Int):=spS_bd HST.out nh;have hsn1:=hsn.1;have hsn2:=hsn.2;rw[HSUM.out];clear hbl HW5 HHS5 HPS5 HTx5 HWR hsn HTOT;generalize hspn:spS hs nh=Sn at*;have HSPN:=Lh hspn;clear hspn;obtain⟨w9,rfl⟩:∃w9:World,w9=wr:=⟨_,rfl⟩;go_wp2_with fail;go_loopw [20,21] (fun s i wx=>∃r:Nat,r≤nh∧i=.int .i64 r∧s=.int .i64 (spS hs r)∧Below w9.heap.size w9 wx) (fun _ i _=>nh-(intOf i).toNat);(case atStart=>exact⟨0,by omega,rfl,rfl,Below.refl _ _⟩);case round=>
          obtain⟨r,hr,rfl,rfl,hbl⟩:=hrel;have HBL:=Lh hbl;by_cases hrn:r<nh
          ·have hrl:r<hs.length:=by rw[HNH.out];exact hrn
           obtain⟨bs,os,rfl,-,hbs,-,c0,c1⟩:=span_at (HHS9.out.to hbl) hrl;have hbd:=HST.out.le _ (List.getElem_mem hrl);have hs1:=spS_step hs hrl;have hs2:=spS_bd HST.out r;obtain⟨sp,hsp⟩:∃sp,hs[r]=sp:=⟨_,rfl⟩;rw[hsp] at c0 c1 hbd hs1;obtain⟨sf,su⟩:=sp;dsimp only at c0 c1 hbd hs1;obtain⟨S0,hS0⟩:∃S,spS hs r=S:=⟨_,rfl⟩;rw[hS0] at hs1 hs2 ⊢;have HS1:=Lh hs1;obtain⟨hb1,hb2,hb3⟩:=hbd;obtain⟨hs3,hs4⟩:=hs2;have HCC:Hid (∀V,Below wr.heap.size wr V→V.cell? ⟨bs,os+r*2+1,none⟩=some (.int .i64 su)):=Lh (fun V hV=>(hV.cell (p:=⟨bs,os+r*2+1,none⟩) hbs).trans c1);have hrI:(r:Int)<(nh:Int):=(by omega);have hsm:S0+su-sf≤392∧0≤S0+su-sf:=(by omega);have hsm1:=hsm.1;have hsm2:=hsm.2;clear hsp hs1 hS0 hrl hbl hsm;go_upto_region 36 with(first|go_quiet (fail)|fail);go_upto_region 37 with(fail);clear c0 c1 hsm1 hsm2;have HBLn:=Lh (Below.dn HBL.out nq);go_wp2_with fail;obtain⟨w8,rfl⟩:∃w8:World,w8=wr:=⟨_,rfl⟩;go_loopw [22] (fun i wx=>∃c:Nat,c≤(su-sf).toNat∧i=.int .i64 (sf+(c:Int))∧Below w8.heap.size w8 wx) (fun i _=>(su-intOf i).toNat);(case atStart=>exact⟨0,by omega,by simp,Below.dn bR _⟩);case round=>
            obtain⟨c,hc,rfl,hbl⟩:=hrel;have c1:=HCC.out _ hbl;have HB8:=Lh hbl;have hI1:0≤sf+(c:Int):=(by omega);have hI2:sf+(c:Int)≤196:=(by omega);by_cases hlt2:sf+(c:Int)+1<su
            ·have hcl:c+1≤(su-sf).toNat:=by omega
             obtain⟨⟨n1,s1,i1⟩,hr1⟩:=QbL (HONy.out (sf+(c:Int)) (by omega) (by rw[HNt.out];omega));obtain⟨⟨n2,s2,i2⟩,hr2⟩:=QbL (HONy.out (sf+(c:Int)+1) (by omega) (by rw[HNt.out];omega));obtain⟨hf1,hf2,hf3⟩:=HFLy.out (sf+(c:Int)) n1 s1 n2 s2 i1 i2 hr1 hr2;rw[HNP.out] at hf1 hf2;rw[HMID.out] at hf3;have HB98:Hid (Below w9.heap.size w9 wr):=Lh (HBL.out.trans (hbl.mono HBL.out.size))
             have HFO:Hid (∀V,Below wr.heap.size wr V→Calls Tryd.prog 12 #[.agg #[.int .i64 m,.int .i64 h,.slice (some ⟨b,o,none⟩) n cb1],.slice Ap np cp,.int .i64 x.entry,.int .i64 vq,.int .i64 (sf+(c:Int)),.bool (decide (sf+(c:Int)+1=(mid:Int)))] V fun e w'=>e=.returned (.bool true)∧Below V.heap.size V w'):=Lh (fun V hV=>by
              have hbo:=(HBO9.out.to HB98.out).to hV
              have hps:=(HPS9.out.to HB98.out).to hV
              have hc:=follows_any hbo Ap cp np ps hps HNP.out x.entry vq (sf+(c:Int)) n1 s1 n2 s2 i1 i2 (decide (sf+(c:Int)+1=(mid:Int))) ⟨by omega,by omega⟩ (by rw[HPP.out];exact hr1) (by rw[HPP.out];exact hr2) hf1 hf2 (by
               rcases hf3 with h0|h0
               ·exact Or.inl (decide_eq_true h0)
               ·exact Or.inr h0)
              rw[HN.out] at hc
              exact hc)
             have HQ:Hid (∀V,Below wr.heap.size wr V→(V.cell? ⟨b1,0,none⟩=some (.int .i64 m)∧V.cell? ⟨b1,1,none⟩=some (.int .i64 h)∧V.cell? ⟨b1,2,none⟩=some (.slice (some ⟨b,o,none⟩) n cb1))∧(V.cell? ⟨X,0,none⟩=some (.int .i64 x.entry)∧V.cell? ⟨X,2,none⟩=some (.slice (some ⟨bv,ov,none⟩) x.vers.length cg))∧V.cell? ⟨bv,ov+q,none⟩=some (.int .i64 vq)):=Lh (fun V hV=>by
              have hbx:=(H1y.out.to HB98.out).to hV
              obtain⟨⟨h1,h2,-⟩,h3⟩:=HWR9.out V (HB98.out.trans (hV.mono HB98.out.size))
              exact⟨⟨hbx.cell 0 rfl,hbx.cell 1 rfl,hbx.cell 2 rfl⟩,⟨h1,h2⟩,h3⟩)
             clear hr1 hr2 hf1 hf2 hf3 hbl;go_upto_region 39 with(fail);clear c1;refine Qaq [14] (fun i=>if i=14 then SP.val (.bool true) else SP.any) 16 (by kernel_rfl) (by kernel_rfl) ?_;intro T _ g hg hgm;have q0:∀d,(g d).cell? ⟨b1,0,none⟩=some (.int .i64 m):=fun d=>(HQ.out _ (hg d)).1.1
             have q1:∀d,(g d).cell? ⟨b1,1,none⟩=some (.int .i64 h):=fun d=>(HQ.out _ (hg d)).1.2.1
             have q2:∀d,(g d).cell? ⟨b1,2,none⟩=some (.slice (some ⟨b,o,none⟩) n cb1):=fun d=>(HQ.out _ (hg d)).1.2.2
             have q3:∀d,(g d).cell? ⟨X,0,none⟩=some (.int .i64 x.entry):=fun d=>(HQ.out _ (hg d)).2.1.1
             have q4:∀d,(g d).cell? ⟨X,2,none⟩=some (.slice (some ⟨bv,ov,none⟩) x.vers.length cg):=fun d=>(HQ.out _ (hg d)).2.1.2
             have q5:∀d,(g d).cell? ⟨bv,ov+q,none⟩=some (.int .i64 vq):=fun d=>(HQ.out _ (hg d)).2.2
             (repeat(refine QaB (by rfl) fun Kq hq=>?_;go_big_quiet_step (fail);refine wpQuiet_nil (hq _ ?_);clear hq Kq));refine Qa7 (by rfl) (by rfl) (fun d hG K Q hK=>?_) (fun v9 d hG hp Kr hr=>?_)
             ·go_simp;go_at_call 12;refine(HFO.out (g d) (hg d)).mono ?_;rintro e W1 ⟨rfl,hb1⟩;go_simp;exact hK _ _ hb1 (rfl)
             obtain rfl:v9=.bool true:=hp;(try clear hp);clear hG;go_frame;refine hr _ ?_;clear hr Kr;(repeat(refine QaB (by rfl) fun Kq hq=>?_;go_big_quiet_step (fail);refine wpQuiet_nil (hq _ ?_);clear hq Kq));refine wpR_end (by kernel_rfl) (fun d hG=>?_) _;clear q0 q1 q2 q3 q4 q5;have HBd:=Lh (hg d);clear hG hg hgm;unfold Exit.then;dsimp only;have HB10:=Lh (HB8.out.trans (HBd.out.mono HB8.out.size));clear HFO HQ HBd HB98;generalize g d=w10 at*;clear g;go_wp2_with fail;go_roundw;(case rel=>exact⟨c+1,hcl,by first|go_num|(congr 1;push_cast;omega),HB10.out⟩);case measure=>simp[intOf];omega
            ·have HB10:=Lh (HBL.out.trans (hbl.mono HBL.out.size));clear hbl;go_wp2_with fail;go_roundw;(case rel=>exact⟨r+1,by omega,by go_num,by rw[HS1.out];first|rfl|(congr 1;omega),HB10.out⟩);case measure=>simp[intOf];omega
          ·obtain rfl:nh=r:=by omega
           rw[HSPN.out];have HB10:=Lh (HTx9.out.trans (hbl.mono HTx9.out.size));clear hbl;go_wp2_with fail;go_roundw;(case rel=>exact⟨q+1,by omega,by go_num,HB10.out⟩);case measure=>simp[intOf];omega
    ·obtain rfl:q=x.texts.length:=by omega
     have HB6:=Lh (HB4.out.trans (hbl.mono HB4.out.size));clear hbl;go_wp2_with fail;go_roundw;(case rel=>exact⟨k+1,by omega,by go_num,HB6.out⟩);case measure=>simp[intOf];omega
  ·obtain rfl:k=n:=by omega
   have HBE:=Lh (HB3.out.trans (hbl.mono HB3.out.size));clear hbl;go_wp2_with fail;refine(lives_any wr).mono ?_;rintro e W9 ⟨rfl,hb⟩;have HB9:=Lh (HBE.out.trans (hb.mono HBE.out.size));clear hb;go_wp2_with fail;go_ret;exact⟨rfl,HB9.out⟩
end Go.Proofs.YtegaapiocihcpaaDoor
namespace Go.Proofs.YtegaapiocihcpaaDoor
open Go.ChangeShapes Go.WideShapes Go.ChangeAt Go.RowKit Go.Deep
variable {H:Type} {enc:TypeId × Value→H} {P:Program}
end Go.Proofs.YtegaapiocihcpaaDoor
namespace Go.Proofs.YtegaapiocihcpaaDoor
open Go.ChangeShapes Go.WideShapes Go.ChangeAt Go.RowKit Go.Deep
variable {H:Type} {enc:TypeId × Value→H} {P:Program}
theorem QcH {t e:TypeId}{W:World}{base:Nat}{v:Value}{d:DataW H}{ps:List MemPlace}(ht:P.underlying t=some (.slice e))(he:P.underlying e=some (.int .i64))(hc:P.cellsOf e=1) (hval:Value.okWide P W .any base t v) (h:DataW.Trod enc P W 0 (fun _=>true) true t v d ps):∃A c,∃l:List Int,v=.slice A l.length c∧Sl W (fun b=>b<W.heap.size) A c l:=by
 obtain⟨a,len,cap,rfl⟩:=okWide_slice ht hval;obtain⟨fuel,hf⟩:=h;rcases open_ints ht he hc hf with⟨hcs,_⟩|⟨a',len',cap',zs,hcs,_,hl,hm,hz,_,hcell,hwf⟩
 ·simp[Value.cells] at hcs;obtain⟨rfl,rfl,rfl⟩:=hcs;exact⟨none,0,[],rfl,Sl.nil _ _ _ _ (by simp[maxLen])⟩
 ·simp[Value.cells] at hcs;obtain⟨rfl,rfl,rfl⟩:=hcs;have hz':zs.length=cap:=(by simpa using hz);have hlt:(zs.take len).length=len:=(by rw[qK];omega);refine⟨some a',cap,zs.take len,by rw[hlt],by rw[hlt];exact hl,hm,fun h0=>?_⟩;obtain⟨b,o,rfl,hat⟩:=Go.ints_at hcell (by omega);refine⟨b,o,rfl,World.block_lt_of_cell? W _ (hat 0 (by omega)),World.block_lt_of_cell? W _ (hat 0 (by omega)),fun i hi=>?_⟩;rw[hlt] at hi
  have e:zs.getD i 0=(zs.take len)[i]'(by omega):=by
   rw[List.getElem_take,List.getD_eq_getElem?_getD,qG (by omega)];rfl
  refine⟨[.int .i64 (zs.getD i 0)],⟨by rw[e],?_⟩,fun j u hu=>?_⟩
  ·exact i64_wf (hwf _ (List.mem_of_mem_take (List.getElem_mem (by omega))))
  ·have hj:j=0:=by
    rcases j with _|j
    ·rfl
    ·simp at hu
   subst hj;simp only[List.getElem?_cons_zero,Option.some.injEq] at hu;subst hu;have:=hat i (by omega);show W.cell? ⟨b,o+i*1+0,none⟩=_;rw[Nat.mul_one,Nat.add_zero];exact this
end Go.Proofs.YtegaapiocihcpaaDoor
