/- Texts of CbC. -/
import Derived.Test.YtegaapiocihcpaaGreatDoorVZj13
import Derived.Laws.RangeString
import Derived.Lib.ItoaNum
import Derived.Deep.Slices
import Derived.Deep.Fields
import Derived.ChangeSame
import Derived.ChangeMaps5
import Derived.OpenShut
set_option maxHeartbeats 16000000
namespace Go.Proofs.YtegaapiocihcpaaGreatDoor
open Go.RowKit
theorem QdN {a b:List (List Word)}{m h:Int}(hw:Qbo m h a b=0):Qag a b m h≠[]:=by
 unfold Qbo at hw;by_cases hE:textE a b m h=0
 ·rw[if_neg (by simpa using hE)] at hw;obtain⟨hf,⟨h1,h2⟩,hp⟩:=Qba hE;unfold Qag;rw[if_pos hE];unfold QaP;have hb:QaX a m≠[]:=by
   cases a with
   |nil=>
    have hn:b=[]:=by
     unfold Qa8 at hp;have e0:QaX [] m=[]:=rfl;rw[e0] at hp;split at hp
     ·cases hp
     ·split at hp
      ·cases hp
      ·simp only[List.flatMap_nil,Qbz] at hp;split at hp
       ·cases hp
       ·rename_i h9;have h8:(Qau [] b m).length=b.length:=(by unfold Qau;rw[Qbi]);exact List.eq_nil_of_length_eq_zero (by omega)
    subst hn;exfalso;rw[if_pos (by rfl)] at hw;cases hw
   |cons p ps=>
    have hr:=hf.reg h1 h2 (p:=p) (by simp);have:=setP_ne (ws:=p) 0 hr (hf.p p (by simp)).1;unfold QaX;rw[Qaz,List.flatten_cons];intro e;exact this (List.append_eq_nil_iff.1 e).1
  have ha:1≤Qaq (QaX a m) (Qau a b m):=by
   cases hB:QaX a m with
   |nil=>exact absurd hB hb
   |cons x xs=>rw[Qaq,List.map_cons,List.sum_cons];omega
  obtain⟨f,hf2⟩:∃f,Qaq (QaX a m) (Qau a b m)=f+1:=⟨Qaq (QaX a m) (Qau a b m)-1,by omega⟩;rw[hf2,setPages,if_neg (fun e=>hb e.1)];simp
 ·rw[if_pos hE] at hw;exact absurd hw hE
/-! Labels. -/
theorem labU_k (e v num:Int)(k:Nat):∀(ps:List PageP) (suf:Int),∀p∈QaQ e v num suf (k+1) ps,p.num=num∧suf<p.suf∧p.suf≤suf+ps.length
 |[],suf=>by simp[QaQ]
 |p::ps,suf=>by
  have h1:=labU_k e v num k ps (suf+1);rw[Qbr,if_neg (by omega),if_neg (by omega)];intro q hq;rw[qC];rcases List.mem_cons.1 hq with rfl|hq
  ·exact⟨rfl,by show suf<suf+1;omega,by show suf+1≤_;omega⟩
  ·have:=h1 q hq;omega
theorem labU_0 (e v suf:Int):∀(ps:List PageP) (num:Int),∀p∈QaQ e v num suf 0 ps,num<p.num∧p.num≤num+ps.length∧p.suf=suf
 |[],num=>by simp[QaQ]
 |p::ps,num=>by
  have h1:=labU_0 e v suf ps (num+1);rw[Qbr,if_pos rfl,if_pos rfl];intro q hq;rw[qC];rcases List.mem_cons.1 hq with rfl|hq
  ·exact⟨by show num<num+1;omega,by show num+1≤_;omega,rfl⟩
  ·have:=h1 q hq;omega
theorem versU_k (m h e num:Int):∀(ts:List TextP) (k:Nat) (suf:Int) (vs:List Int),∀p∈QaJ m h e (k+1) num suf vs ts,p.num=num∧suf<p.suf∧p.suf≤suf+(QaJ m h e (k+1) num suf vs ts).length
 |[],k,suf,vs=>by simp[QaJ]
 |t::ts,k,suf,vs=>by
  rw[QaJ,if_neg (by omega),if_neg (by omega),qA,QbL];have h1:=labU_k e (vs.headD 0) num k (Qag t.a t.b m h) suf;have h3:=versU_k m h e num ts (k+1) (suf+(Qag t.a t.b m h).length) vs.tail;intro p hp;rcases List.mem_append.1 hp with hp|hp
  ·have:=h1 p hp;omega
  ·have:=h3 p hp;omega
theorem versU_0 (m h e num:Int)(ts:List TextP)(vs:List Int)(ht:∀t∈ts,Qag t.a t.b m h≠[]):∀p∈QaJ m h e 0 num 0 vs ts,(num<p.num∧p.num≤num+(QaE m h ⟨e,true,vs,ts⟩:Nat))∧0≤p.suf∧p.suf≤(QaJ m h e 0 num 0 vs ts).length:=by
 cases ts with
 |nil=>simp[QaJ]
 |cons t ts=>
  rw[QaJ,if_pos rfl,if_pos rfl,qA,QbL];have h1:=labU_0 e (vs.headD 0) 0 (Qag t.a t.b m h) num;have h3:=versU_k m h e (num+(Qag t.a t.b m h).length) ts 0 0 vs.tail;have hl:0<(Qag t.a t.b m h).length:=List.length_pos_iff.2 (ht t (by simp));have hpl:QaE m h ⟨e,true,vs,t::ts⟩=(Qag t.a t.b m h).length:=rfl;rw[hpl];intro p hp;rcases List.mem_append.1 hp with hp|hp
  ·have:=h1 p hp;omega
  ·have:=h3 p hp;omega
theorem plainB_le (m h:Int)(s:SectP)(num:Int):QaE m h s≤(QaJ m h s.entry 0 num 0 s.vers s.texts).length:=by
 obtain⟨e,f,v,ts⟩:=s;cases ts with
 |nil=>exact Nat.zero_le _
 |cons t ts=>
  show(Qag t.a t.b m h).length≤_;rw[QaJ,qA,QbL];omega
theorem sectsU {m h:Int}:∀(l:List SectP) (num:Int),(∀s∈l,∀t∈s.texts,Qag t.a t.b m h≠[])→∀p∈Qay m h num l,(num<p.num∧p.num≤num+(Qay m h num l).length)∧0≤p.suf∧p.suf≤(Qay m h num l).length
 |[],num,_=>by simp[Qay]
 |s::ss,num,H=>by
  rw[Qay,qA];have h1:=versU_0 m h s.entry num s.texts s.vers (H s (by simp));have h3:=sectsU ss (num+QaE m h s) (fun x hx=>H x (by simp[hx]));have hpl:QaE m h ⟨s.entry,true,s.vers,s.texts⟩=QaE m h s:=rfl;have hle:=plainB_le m h s num;rw[hpl] at h1;intro p hp;rcases List.mem_append.1 hp with hp|hp
  ·have:=h1 p hp;omega
  ·have:=h3 p hp;omega
theorem GoodB.labU {m h:Int}{l:List SectP}(H:GoodB m h l):∀p∈Qak m h l,(1≤p.num∧p.num≤16384)∧0≤p.suf∧p.suf≤16384:=fun p hp=>by
 have h1:=sectsU l 0 (fun s hs t ht=>QdN ((H.s s hs).w t ht)) p hp;have h2:=H.p;unfold Qak at h2;omega
/-! Lines. -/
theorem fillP_le (notes:List (List LineP))(h:Nat):∀(body:List LineP) (lines shown:Nat) (queue:List LineP),lines≤h→shown≤h→(fillP notes h body lines shown queue).1≤h∧(fillP notes h body lines shown queue).2.1≤h
 |[],lines,shown,queue,h1,h2=>by rw[fillP];exact⟨h1,h2⟩
 |x::body,lines,shown,queue,h1,h2=>by
  rw[fillP];split
  ·rename_i hf;have hr:0<QcE h lines shown:=by
    unfold QcD at hf;split at hf
    ·exact of_decide_eq_true hf
    ·have:=of_decide_eq_true (Bool.and_eq_true_iff.1 hf).2;have h9:(min shown 1:Nat)≤1:=Nat.min_le_right _ _;omega
   unfold QcE at hr;refine fillP_le notes h body _ _ _ (by omega) ?_;split
   ·have:=Nat.min_le_right ((queue++Qad notes x).length-shown) (h-(lines+1)-shown-1);omega
   ·exact h2
  ·exact⟨h1,h2⟩
theorem setPages_h (notes:List (List LineP))(h:Nat):∀(f:Nat) (body queue:List LineP),∀p∈setPages notes h f body queue,p.body.length≤h∧p.notes.length≤h
 |0,_,_=>by simp[setPages]
 |f+1,body,queue=>by
  have h1:=fillP_le notes h body 0 (min queue.length (h-1)) queue (Nat.zero_le _) (by have:=Nat.min_le_right queue.length (h-1);omega);intro p hp;rw[setPages] at hp;split at hp
  ·simp at hp
  ·rcases List.mem_cons.1 hp with rfl|hp
   ·exact⟨by show(List.take _ _).length≤_;rw[qK];have:=h1.1;omega,by show(List.take _ _).length≤_;rw[qK];have:=h1.2;omega⟩
   ·exact setPages_h notes h f _ _ p hp
theorem okPages_h {a b:List (List Word)}{m h:Int}:∀p∈Qag a b m h,p.body.length≤100∧p.notes.length≤100:=by
 unfold Qag;split
 ·rename_i hE;obtain⟨hf,⟨h1,h2⟩,hp⟩:=Qba hE;have hh:h≤100:=by
   unfold Qa8 at hp;split at hp
   ·exact absurd hp (by decide)
   ·omega
  intro p hp;unfold QaP at hp;have:=setPages_h (Qau a b m) h.toNat (Qaq (QaX a m) (Qau a b m)) (QaX a m) [] p hp;omega
 ·intro p hp;simp at hp
theorem GoodB.lines {m h:Int}{l:List SectP}(H:GoodB m h l):∀p∈Qak m h l,p.body.length≤100∧p.notes.length≤100:=by
 intro p hp;have hc:p.core∈coreS m h l:=by rw[←Qei];exact List.mem_map_of_mem hp
 unfold coreS at hc;obtain⟨s,hs,hcs⟩:=List.mem_flatMap.1 hc;obtain⟨he,j,hj,hv,h1,q,hq,h2,h3⟩:=coreV_at m h s.entry s.texts s.vers (H.s s hs).nt p.core hcs;have h5:=okPages_h q hq;have h6:p.body=q.body:=h2;have h7:p.notes=q.notes:=h3;rw[h6,h7];exact h5
theorem GoodB.pv {m h:Int}{l:List SectP}(H:GoodB m h l):∀p∈Qak m h l,PgV l p:=fun p hp=>by
 have h1:=H.labU p hp;have h2:=H.lines p hp;exact H.pgv hp h1.1 h1.2 (by omega) (by omega)
/-! Marks. -/
def cerS (s:SheetP):Sheet:=⟨s.label,s.body,s.notes⟩
def cerL (l:List SheetP):List Sheet:=l.map cerS
theorem QbI (l:List SheetP):(cerL l).length=l.length:=qM _
theorem str_cer {w:World}{S:Nat→Prop}{A:Option Addr}{c:Nat}{l:List ByteArray}(h:@Sl ByteArray instRepByteArray w S A c l):@Sl ByteArray repStrZ w S A c l:=by
 refine⟨h.1,h.2.1,fun hn=>?_⟩;obtain⟨b,o,e,h1,h2,h3⟩:=h.2.2 hn
 exact⟨b,o,e,h1,h2,fun i hi=>by
  obtain⟨es,h4,h5⟩:=h3 i hi
  exact⟨es,h4.1,h5⟩⟩
theorem sl_cer {w:World}{S:Nat→Prop}{A:Option Addr}{c:Nat}{l:List SheetP}(h:Sl w S A c l):Sl w S A c (cerL l):=by
 refine⟨by rw[QbI];exact h.1,h.2.1,fun hn=>?_⟩;rw[QbI] at hn;obtain⟨b,o,e,h1,h2,h3⟩:=h.2.2 hn;refine⟨b,o,e,h1,h2,fun i hi=>?_⟩;have hi2:i<l.length:=by rwa [QbI] at hi
 obtain⟨es,⟨va,vb,e4,⟨A1,c1,e5,h5,h6⟩,A2,c2,e7,h7,h8⟩,h9⟩:=h3 i hi2;have e10:(cerL l)[i]=cerS l[i]:=List.getElem_map ..;rw[e10];exact⟨es,⟨va,vb,e4,⟨A1,c1,e5,str_cer h5,h6⟩,A2,c2,e7,str_cer h7,h8⟩,h9⟩
theorem textB_le (s:ByteArray):(Qbl s).length≤11+s.size:=by
 have:s.data.toList.length=s.size:=by rw[Array.length_toList];rfl
 have h:=Qbb s.size;unfold Qbl;rw[qA,this];omega
theorem texts_le (k:Nat):∀(l:List ByteArray),(∀z∈l,z.size≤k)→(l.flatMap Qbl).length≤(11+k)*l.length
 |[],_=>by simp
 |x::l,h=>by
  have h1:=texts_le k l fun z hz=>h z (by simp[hz])
  have h2:=textB_le x;have h3:=h x (by simp);rw[List.flatMap_cons,qA,qC,Nat.mul_succ];omega
theorem textsB_le (k:Nat)(l:List ByteArray)(h:∀z∈l,z.size≤k):(QbQ l).length≤11+(11+k)*l.length:=by
 have h1:=texts_le k l h;have h2:=Qbb l.length;unfold QbQ;rw[qA];omega
theorem labT_size {n s:Nat}(hn:n≤16384):(labT n s).size≤1000000:=by
 have h1:=itoa_len (n:Int) ⟨by omega,by omega⟩;have h2:=sufF_len 4 s [];show(Lib.itoa (n:Int)++sufF 4 s []).toArray.size≤_;rw[List.size_toArray,qA];simp only[List.length_nil] at h2;omega
theorem QeI {m h:Int}{l:List SectP}(H:GoodB m h l)(HT:Tame l)(sl:List Seal):∀s∈cerL (QaY m h l sl),(Qbm 3 s).length≤1073740000:=by
 intro s hs;obtain⟨q,hq,rfl⟩:=List.mem_map.1 hs;unfold QaY at hq;obtain⟨p,hp,rfl⟩:=List.mem_map.1 hq;have hv:=H.pv p hp;have hl:=H.lines p hp;obtain⟨t,ht,-,⟨s,hs,hts⟩,-⟩:=H.text p hp;have htp:Qbk l p=t:=by unfold Qbk;rw[ht];rfl
 have htot:=((HT.v s hs).2.2 t hts).tot;rw[←htp] at htot
 have hline:∀x∈p.body++p.notes,(Qbe sl 0 p.entry p.ver (Qbv (Qbk l p)) x).size≤200000:=fun x hx=>by
  have hin:=hv.inl x hx;rw[lineS_to hin];have h1:x.un.toNat≤tot ((Qbk l p).a++(Qbk l p).b):=(by have:=hin.2.2;have:=hin.1;have:=hin.2.1;omega);have h2:=joinS_size (QaZ sl 0 p.entry p.ver (Qbv (Qbk l p)) x.fr.toNat x.un.toNat) (QcR hv.ws (by rw[Qd3];exact h1));rw[QcB] at h2;omega
 have hb:=textsB_le 200000 (p.body.map (Qbe sl 0 p.entry p.ver (Qbv (Qbk l p)))) fun z hz=>by
  obtain⟨x,hx,rfl⟩:=List.mem_map.1 hz;exact hline x (List.mem_append_left _ hx)
 have hn:=textsB_le 200000 (p.notes.map (Qbe sl 0 p.entry p.ver (Qbv (Qbk l p)))) fun z hz=>by
  obtain⟨x,hx,rfl⟩:=List.mem_map.1 hz;exact hline x (List.mem_append_right _ hx)
 rw[qM] at hb hn;have hlab:=textB_le (labS p);have hls:(labS p).size≤1000000:=labT_size (by have:=hv.num;omega);have hi:(intB 3).length≤11:=Qbb _;show(intB 3++Qbl (labS p)++QbQ (p.body.map (Qbe sl 0 p.entry p.ver (Qbv (Qbk l p))))++QbQ (p.notes.map (Qbe sl 0 p.entry p.ver (Qbv (Qbk l p))))).length≤_;rw[qA,qA,qA];omega
def LtL (p q:PageP):Prop:=p.num<q.num∨(p.num=q.num∧p.suf<q.suf)
theorem lab_k (e v num:Int)(k:Nat):∀(ps:List PageP) (suf:Int),(∀p∈QaQ e v num suf (k+1) ps,p.num=num∧suf<p.suf∧p.suf≤suf+ps.length)∧(QaQ e v num suf (k+1) ps).Pairwise LtL
 |[],suf=>by simp[QaQ]
 |p::ps,suf=>by
  obtain⟨h1,h2⟩:=lab_k e v num k ps (suf+1);rw[Qbr,if_neg (by omega),if_neg (by omega)];refine⟨fun q hq=>?_,List.pairwise_cons.2 ⟨fun q hq=>?_,h2⟩⟩
  ·rcases List.mem_cons.1 hq with rfl|hq
   ·exact⟨rfl,by show suf<suf+1;omega,by show suf+1≤_;rw[qC];omega⟩
   ·have:=h1 q hq;rw[qC];omega
  ·have:=h1 q hq;exact .inr ⟨this.1.symm,by show suf+1<q.suf;omega⟩
theorem lab_0 (e v suf:Int):∀(ps:List PageP) (num:Int),(∀p∈QaQ e v num suf 0 ps,num<p.num∧p.num≤num+ps.length∧p.suf=suf)∧(QaQ e v num suf 0 ps).Pairwise LtL
 |[],num=>by simp[QaQ]
 |p::ps,num=>by
  obtain⟨h1,h2⟩:=lab_0 e v suf ps (num+1);rw[Qbr,if_pos rfl,if_pos rfl];refine⟨fun q hq=>?_,List.pairwise_cons.2 ⟨fun q hq=>?_,h2⟩⟩
  ·rcases List.mem_cons.1 hq with rfl|hq
   ·exact⟨by show num<num+1;omega,by show num+1≤_;rw[qC];omega,rfl⟩
   ·have:=h1 q hq;rw[qC];omega
  ·have:=h1 q hq;exact .inl (by show num+1<q.num;omega)
theorem vers_k (m h e num:Int):∀(ts:List TextP) (k:Nat) (suf:Int) (vs:List Int),(∀p∈QaJ m h e (k+1) num suf vs ts,p.num=num∧suf<p.suf)∧(QaJ m h e (k+1) num suf vs ts).Pairwise LtL
 |[],k,suf,vs=>by simp[QaJ]
 |t::ts,k,suf,vs=>by
  rw[QaJ,if_neg (by omega),if_neg (by omega)];obtain⟨h1,h2⟩:=lab_k e (vs.headD 0) num k (Qag t.a t.b m h) suf;obtain⟨h3,h4⟩:=vers_k m h e num ts (k+1) (suf+(Qag t.a t.b m h).length) vs.tail;refine⟨fun p hp=>?_,List.pairwise_append.2 ⟨h2,h4,fun p hp q hq=>?_⟩⟩
  ·rcases List.mem_append.1 hp with hp|hp
   ·have:=h1 p hp;omega
   ·have:=h3 p hp;omega
  ·have:=h1 p hp;have:=h3 q hq;exact .inr ⟨by omega,by omega⟩
theorem vers_0 (m h e num:Int)(ts:List TextP)(vs:List Int)(ht:∀t∈ts,Qag t.a t.b m h≠[]):(∀p∈QaJ m h e 0 num 0 vs ts,num<p.num∧p.num≤num+(QaE m h ⟨e,true,vs,ts⟩:Nat))∧(QaJ m h e 0 num 0 vs ts).Pairwise LtL:=by
 cases ts with
 |nil=>simp[QaJ]
 |cons t ts=>
  rw[QaJ,if_pos rfl,if_pos rfl];obtain⟨h1,h2⟩:=lab_0 e (vs.headD 0) 0 (Qag t.a t.b m h) num;obtain⟨h3,h4⟩:=vers_k m h e (num+(Qag t.a t.b m h).length) ts 0 0 vs.tail;have hl:0<(Qag t.a t.b m h).length:=List.length_pos_iff.2 (ht t (by simp));have hpl:QaE m h ⟨e,true,vs,t::ts⟩=(Qag t.a t.b m h).length:=rfl;rw[hpl];refine⟨fun p hp=>?_,List.pairwise_append.2 ⟨h2,h4,fun p hp q hq=>?_⟩⟩
  ·rcases List.mem_append.1 hp with hp|hp
   ·have:=h1 p hp;omega
   ·have:=h3 p hp;omega
  ·have a1:=h1 p hp;have a2:=h3 q hq;rcases Int.lt_or_lt_of_ne (a:=p.num) (b:=q.num) |> fun _=>Classical.em (p.num=q.num) with h9|h9
   ·exact .inr ⟨h9,by omega⟩
   ·exact .inl (by omega)
theorem sects_lab {m h:Int}:∀(l:List SectP) (num:Int),(∀s∈l,∀t∈s.texts,Qag t.a t.b m h≠[])→(∀p∈Qay m h num l,num<p.num)∧(Qay m h num l).Pairwise LtL
 |[],num,_=>by simp[Qay]
 |s::ss,num,H=>by
  rw[Qay];obtain⟨h1,h2⟩:=vers_0 m h s.entry num s.texts s.vers (H s (by simp));obtain⟨h3,h4⟩:=sects_lab ss (num+QaE m h s) (fun x hx=>H x (by simp[hx]));have hpl:QaE m h ⟨s.entry,true,s.vers,s.texts⟩=QaE m h s:=rfl;rw[hpl] at h1;refine⟨fun p hp=>?_,List.pairwise_append.2 ⟨h2,h4,fun p hp q hq=>?_⟩⟩
  ·rcases List.mem_append.1 hp with hp|hp
   ·have:=h1 p hp;omega
   ·have:=h3 p hp;omega
  ·have:=h1 p hp;have:=h3 q hq;exact .inl (by omega)
theorem GoodB.lab {m h:Int}{l:List SectP}(H:GoodB m h l):(Qak m h l).Pairwise LtL:=(sects_lab l 0 fun s hs t ht=>QdN ((H.s s hs).w t ht)).2
def SGood (s:SectP):Prop:=(0≤s.entry∧s.entry≤65535)∧0<s.vers.length∧s.vers.length≤1000∧∀v∈s.vers,0≤v∧v≤2147483647
theorem saddE_zero {sl:List Seal}{q:Seal}(h:(saddE sl q).2=0):(saddE sl q).1=sl++[q]:=by
 unfold saddE at h ⊢;split at h
 ·cases h
 ·rename_i h1;split at h
  ·cases h
  ·rename_i h2;split at h
   ·cases h
   ·rename_i h3;rw[if_neg h1,if_neg h2,if_neg h3]
def SlOk (sl:List Seal):Prop:=∀s∈sl,s.ok∧0≤s.g∧s.g<16
set_option maxRecDepth 100000 in
theorem rseals_any (A0:Option Addr)(c0:Nat)(l0:List Int)(m h:Int)(Ab:Option Addr)(cb:Nat)(ss:List SectP)(w:World)(hs0:Sl w (fun b=>b<w.heap.size) A0 c0 l0)(hss:Sl w (fun b=>b<w.heap.size) Ab cb ss)(hG:∀s∈ss,SGood s)(hsn:ss.length≤1000):
 Calls Tryz.prog 46 #[.slice A0 l0.length c0,.agg #[.int .i64 m,.int .i64 h,.slice Ab ss.length cb]] w fun r W'=>∃v sl,r=.returned v∧Own W' w.heap.size 118 v sl∧sl.length≤6∧SlOk sl∧Below w.heap.size w W':=by
 obtain⟨n,hn⟩:∃n,l0.length=n:=⟨_,rfl⟩;obtain⟨ns,hns⟩:∃ns,ss.length=ns:=⟨_,rfl⟩;obtain⟨wb,hwb⟩:∃wb,w.alloc (.cells #[.int .i64 m,.int .i64 h,.slice Ab ns cb] 25)=wb:=⟨_,rfl⟩;have hba:Below w.heap.size w wb:=by rw[←hwb];exact bR.alloc nL _
 have hx0:ABox wb w.heap.size 25 [.int .i64 m,.int .i64 h,.slice Ab ns cb]:=by rw[←hwb];exact heap_alloc_new w _
 have HI:=Lh (hs0.to hba);have HSS:=Lh (hss.to hba);have HN:=Lh hn;have HNS:=Lh hns;have HG:=Lh hG;have HBA:=Lh hba;have HX0:=Lh hx0;have hnc:n≤c0:=by rw[←hn];exact hs0.1
 have hnc2:c0≤9223372036854775807:=hs0.2.1;have hsc:ns≤cb:=by rw[←hns];exact hss.1
 have hsc2:cb≤9223372036854775807:=hss.2.1;have hns6:ns≤1000:=by omega
 rw[hn,hns];clear hs0 hss hn hns hG hba hx0 hsn;go_enter Tryz.func46,Tryz.ntmps46;go_upto_region 1 with(fail);(try rw[hwb]);clear hwb;go_wp2_with fail;go_loopw [5,6] (fun v5 v6 wr=>∃(k:Nat) (sl:List Seal),v6=.int .i64 k∧k≤n∧k≤6∧Hid (Own wr wb.heap.size 118 v5 sl)∧Hid (sl.length≤k)∧Hid (SlOk sl)∧Hid (Below wb.heap.size wb wr)) (fun _ v6 _=>6-(intOf v6).toNat);(case atStart=>exact⟨0,[],rfl,Nat.zero_le _,Nat.zero_le _,Lh (Own.nil _ _ _),Lh nL,Lh (fun _ h=>nomatch h),Lh bR⟩);case round=>
  obtain⟨k,sl,rfl,hkn,hk6,HO,HLE,HOK,HB⟩:=hrel;have y2:=(HX0.out.to HB.out).cell 2 rfl;go_upto_region 3 with(fail);go_cut [26] from 13 to 26 (fun v26 wx=>v26=.bool (decide (k<n∧k<6∧0<ns))∧wx=wr);case first=>
   by_cases h1:k<n
   ·by_cases h2:k<6
    ·by_cases h3:0<ns
     ·have g1:(k:Int)<(n:Int):=by omega
      have g2:(k:Int)<6:=(by omega);have g3:(0:Int)<(ns:Int):=(by omega);go_wp2_with fail;go_meet;exact⟨by rw[decide_eq_true (⟨h1,h2,h3⟩:k<n∧k<6∧0<ns)],rfl⟩
     ·have g1:(k:Int)<(n:Int):=by omega
      have g2:(k:Int)<6:=(by omega);have g3:¬(0:Int)<(ns:Int):=(by omega);go_wp2_with fail;go_meet;exact⟨by rw[decide_eq_false (fun h=>h3 h.2.2:¬(k<n∧k<6∧0<ns))],rfl⟩
    ·have g1:(k:Int)<(n:Int):=by omega
     have g2:¬(k:Int)<6:=(by omega);go_wp2_with fail;go_meet;exact⟨by rw[decide_eq_false (fun h=>h2 h.2.1:¬(k<n∧k<6∧0<ns))],rfl⟩
   ·have g1:¬(k:Int)<(n:Int):=by omega
    go_wp2_with fail;go_meet;exact⟨by rw[decide_eq_false (fun h=>h1 h.1:¬(k<n∧k<6∧0<ns))],rfl⟩
  case rest=>
   obtain⟨rfl,rfl⟩:=hcut;obtain⟨wr,hwr⟩:∃q:World,q=wc:=⟨_,rfl⟩;subst hwr;by_cases hlt:k<n∧k<6∧0<ns
   ·rw[decide_eq_true hlt];obtain⟨hk,hk6',hns0⟩:=hlt;have hkl:k<l0.length:=(by rw[HN.out];exact hk);obtain⟨b0,o0,hA0,-,hb0,hI0,e0⟩:=Qcf HI.out hkl;subst hA0;obtain⟨a0,ha0⟩:∃a0,l0[k]=a0:=⟨_,rfl⟩;rw[ha0] at hI0 e0;have e1:=(HB.out.cell (p:=⟨b0,o0+k,none⟩) hb0).trans e0;obtain⟨hI1,hI2⟩:=hI0;have hkI:(k:Int)<(n:Int):=(by omega);clear ha0 e0;go_upto_if 34 with(fail);go_cut [7] from 33 to 37 (fun v7 wx=>v7=.int .i64 (if a0<0 then -(a0+1) else a0)∧wx=wr);case first=>
     by_cases hneg:a0<0
     ·go_wp2_with fail;go_meet;exact⟨by rw[if_pos hneg],rfl⟩
     ·go_wp2_with fail;go_meet;exact⟨by rw[if_neg (by omega)],rfl⟩
    case rest=>
     obtain⟨rfl,rfl⟩:=hcut;obtain⟨wr,hwr⟩:∃q:World,q=wc:=⟨_,rfl⟩;subst hwr;have har:=aro_lt a0 1000000 (by decide);have hai:0≤(if a0<0 then -(a0+1) else a0)∧(if a0<0 then -(a0+1) else a0)≤9223372036854775807:=(by split<;>omega);obtain⟨z,hz⟩:∃z,(if a0<0 then -(a0+1) else a0)=z:=⟨_,rfl⟩;have hzr:z%1000000=aro a0 1000000:=(by rw[←hz];rfl);rw[hz] at hai ⊢;obtain⟨hz0,hz1⟩:=hai;clear hz;go_upto_region 9 with(fail);obtain⟨x,hx⟩:∃x,z%1000000=x:=⟨_,rfl⟩;have hx0:0≤x:=(by rw[←hx];exact Int.emod_nonneg _ (by decide));have hx1:x<1000000:=(by rw[←hx];exact Int.emod_lt_of_pos _ (by decide));rw[hx];clear hx hzr har;obtain⟨i,hi⟩:∃i:Nat,x%(ns:Int)=(i:Int):=⟨(x%(ns:Int)).toNat,by have:=Int.emod_nonneg x (show(ns:Int)≠0 by omega);omega⟩;have hin:i<ns:=(by have:=Int.emod_lt_of_pos x (show(0:Int)<(ns:Int) by omega);omega);have hil:i<ss.length:=(by rw[HNS.out];exact hin);obtain⟨bs,os,Ag,cg,An,cn,hAs,-,hbs0,r0,r1,r2,r3,hvS,-,hIE⟩:=Qds HSS.out hil;have hgs:=HG.out _ (List.getElem_mem hil);obtain⟨s,hs⟩:∃s,ss[i]=s:=⟨_,rfl⟩;rw[hs] at r0 r1 r2 r3 hvS hIE hgs;subst hAs;have hbs:bs<wr.heap.size:=Nat.lt_of_lt_of_le hbs0 HB.out.size;have t0:=(HB.out.cell (p:=⟨bs,os+i*4,none⟩) hbs0).trans r0;have t1:=(HB.out.cell (p:=⟨bs,os+i*4+1,none⟩) hbs0).trans r1;have t2:=(HB.out.cell (p:=⟨bs,os+i*4+2,none⟩) hbs0).trans r2;have t3:=(HB.out.cell (p:=⟨bs,os+i*4+3,none⟩) hbs0).trans r3;have HVS:=Lh hvS;have HGS:=Lh hgs;have hinI:(i:Int)<(ns:Int):=(by omega);clear hs r0 r1 r2 r3 hvS hIE hgs;refine Qap [9] (fun i=>if i=9 then SP.box wr.heap.size #[.int .i64 0,.bool false,.slice none 0 0,.slice none 0 0] 74 else SP.any) 10 (by kernel_rfl) (by kernel_rfl) ?_;intro T _ g hg hgm;have yy:∀d,(g d).cell? ⟨w.heap.size,2,none⟩=some (.slice (some ⟨bs,os,none⟩) ns cb):=fun d=>((HX0.out.to HB.out).to (hg d)).cell 2 rfl
     have s0:∀d,(g d).cell? ⟨bs,os+i*4,none⟩=some (.int .i64 s.entry):=fun d=>((hg d).cell (p:=⟨bs,os+i*4,none⟩) hbs).trans t0
     have s1:∀d,(g d).cell? ⟨bs,os+i*4+1,none⟩=some (.bool s.frozen):=fun d=>((hg d).cell (p:=⟨bs,os+i*4+1,none⟩) hbs).trans t1
     have s2:∀d,(g d).cell? ⟨bs,os+i*4+2,none⟩=some (.slice Ag s.vers.length cg):=fun d=>((hg d).cell (p:=⟨bs,os+i*4+2,none⟩) hbs).trans t2
     have s3:∀d,(g d).cell? ⟨bs,os+i*4+3,none⟩=some (.slice An s.texts.length cn):=fun d=>((hg d).cell (p:=⟨bs,os+i*4+3,none⟩) hbs).trans t3
     clear y2;(repeat(refine Qao (by rfl) fun Kq hq=>?_;go_big_quiet_step (fail);refine wpQuiet_nil (hq _ ?_);clear hq Kq));have HXR:Hid (0≤x∧x<1000000):=Lh ⟨hx0,hx1⟩;clear hi hinI hz0 hz1 hx0 hx1;refine QaG (by rfl) (by rfl) (fun d hG K Q hK=>?_) (fun v d hG hp Kr hr=>?_)
     ·go_simp;exact hK _ _ (bR.alloc nL _) ⟨_,rfl,(hg d).size,by simp,heap_alloc_new _ _⟩
     obtain⟨O,rfl,hO,-⟩:=(show ∃b,v=.pointer (some ⟨b,0,none⟩)∧wr.heap.size≤b∧_ from hp);have HOW:=Lh hO;clear hO;(try clear hp);clear hG;go_frame;refine hr _ ?_;clear hr Kr;refine QbZ 1 (by rfl) (by rfl) (fun d hG=>?_);obtain⟨b',hb',-,hbl,hbh⟩:=(show ∃b,Value.pointer (some ⟨O,0,none⟩)=.pointer (some ⟨b,0,none⟩)∧wr.heap.size≤b∧b<(g d).heap.size∧(g d).heap[b]? =some (.cells #[.int .i64 0,.bool false,.slice none 0 0,.slice none 0 0] 74 (0,0)) from hG 9);cases hb';have HXB:Hid (ABox (g d) O 74 [.int .i64 0,.bool false,.slice none 0 0,.slice none 0 0]):=Lh hbh;have HGD:=Lh (hg d);clear hG hg hgm yy s0 s1 s2 s3 hbl hbh t0 t1 t2 t3;generalize g d=w3 at*;clear g;have x0:=HXB.out.cell 0 rfl;have f0:=HXB.out.fz 0;have x1:=((HXB.out.set 0 (.int .i64 s.entry))).cell 1 rfl;have f1:=((HXB.out.set 0 (.int .i64 s.entry))).fz 1;have x2:=(((HXB.out.set 0 (.int .i64 s.entry)).set 1 (.bool s.frozen))).cell 2 rfl;have f2:=(((HXB.out.set 0 (.int .i64 s.entry)).set 1 (.bool s.frozen))).fz 2;have x3:=((((HXB.out.set 0 (.int .i64 s.entry)).set 1 (.bool s.frozen)).set 2 (.slice Ag s.vers.length cg))).cell 3 rfl;have f3:=((((HXB.out.set 0 (.int .i64 s.entry)).set 1 (.bool s.frozen)).set 2 (.slice Ag s.vers.length cg))).fz 3;have HXC:=Lh ((((HXB.out.set 0 (.int .i64 s.entry)).set 1 (.bool s.frozen)).set 2 (.slice Ag s.vers.length cg)).set 3 (.slice An s.texts.length cn));refine QaN (i:=10) (oi:=_) rfl (by kernel_rfl) (by rfl) (fun K hK=>?_);go_simp;refine hK _ _ ?_;clear hK K;(try go_frame);clear x0 x1 x2 x3 f0 f1 f2 f3;refine wpAny_done (by kernel_rfl) ?_ _;unfold Exit.then;obtain⟨w4,hw4⟩:∃w4,((((w3.setCell ⟨O,0,none⟩ (.int .i64 s.entry)).setCell ⟨O,1,none⟩ (.bool s.frozen)).setCell ⟨O,2,none⟩ (.slice Ag s.vers.length cg)).setCell ⟨O,3,none⟩ (.slice An s.texts.length cn))=w4:=⟨_,rfl⟩;have hb4:Below wr.heap.size wr w4:=(by rw[←hw4];exact((((HGD.out.setCell (p:=⟨O,0,none⟩) HOW.out (.int .i64 s.entry)).setCell (p:=⟨O,1,none⟩) HOW.out (.bool s.frozen)).setCell (p:=⟨O,2,none⟩) HOW.out (.slice Ag s.vers.length cg)).setCell (p:=⟨O,3,none⟩) HOW.out (.slice An s.texts.length cn)));have hx4:=HXC.out;rw[hw4] at hx4;rw[hw4];have HX4:=Lh hx4;have HB4:Hid (Below wb.heap.size wb w4):=Lh (HB.out.trans (hb4.mono HB.out.size));have HO4:=Lh (HO.out.below hb4);have hvl:0<s.vers.length:=HGS.out.2.1;have hvl2:s.vers.length≤1000:=HGS.out.2.2.1;obtain⟨nv,hnv⟩:∃nv,s.vers.length=nv:=⟨_,rfl⟩;have HNV:=Lh hnv;rw[hnv] at hvl hvl2;have x2:=HX4.out.cell 2 rfl;rw[hnv] at x2;have hvI:(0:Int)<(nv:Int):=(by omega);have hxa:=HXR.out.1;have hxb:=HXR.out.2;clear hw4 hb4 hx4 hnv HXC HXB HGD;obtain⟨j,hj⟩:∃j:Nat,x/16%(nv:Int)=(j:Int):=⟨(x/16%(nv:Int)).toNat,by have:=Int.emod_nonneg (x/16) (show(nv:Int)≠0 by omega);omega⟩;have hjn:j<nv:=(by have:=Int.emod_lt_of_pos (x/16) hvI;omega);have hjl:j<s.vers.length:=(by rw[HNV.out];exact hjn);obtain⟨bv,ov,hAg,-,hbv,hIv,v0⟩:=Qcf HVS.out hjl;subst hAg;have hyr:=HGS.out.2.2.2 _ (List.getElem_mem hjl);obtain⟨y,hy⟩:∃y,s.vers[j]=y:=⟨_,rfl⟩;rw[hy] at v0 hyr;have v1:=(HB4.out.cell (p:=⟨bv,ov+j,none⟩) hbv).trans v0;have hjI:(j:Int)<(nv:Int):=(by omega);have hq0:0≤x/16:=(by omega);have hq1:x/16≤1000000:=(by omega);have HYR:=Lh hyr;clear hy hyr v0 hIv;go_upto_region 12 with(fail);go_quiet (fail);obtain⟨w5,hw5⟩:∃w5,w4.drewN nq=w5:=⟨_,rfl⟩;have hb5:Below w4.heap.size w4 w5:=(by rw[←hw5];exact Below.dn bR nq);rw[hw5];have HX5:=Lh (HX4.out.to hb5);have HO5:=Lh (HO4.out.below hb5);have HB5:Hid (Below wb.heap.size wb w5):=Lh (HB4.out.trans (hb5.mono HB4.out.size));have x0:=HX5.out.cell 0 rfl;clear hw5 hb5 x2 v1 hj hjI;go_upto_region 15 with(fail);obtain⟨f,hf⟩:∃f,x/64%12=f:=⟨_,rfl⟩;obtain⟨g,hg⟩:∃g,x/768%4=g:=⟨_,rfl⟩;obtain⟨u,hu⟩:∃u,f+1+x/3072%6=u:=⟨_,rfl⟩;have hfr:0≤f∧f<12:=(by rw[←hf];exact⟨Int.emod_nonneg _ (by decide),Int.emod_lt_of_pos _ (by decide)⟩);have hgr:0≤g∧g<4:=(by rw[←hg];exact⟨Int.emod_nonneg _ (by decide),Int.emod_lt_of_pos _ (by decide)⟩);have hur:f+1≤u∧u<f+7:=(by have h1:=Int.emod_nonneg (x/3072) (show(6:Int)≠0 by decide);have h2:=Int.emod_lt_of_pos (x/3072) (show(0:Int)<6 by decide);omega);rw[hf,hu,hg];obtain⟨w6,hw6⟩:∃w6,w5.alloc (.cells #[.int .i64 s.entry,.int .i64 y,.int .i64 f,.int .i64 u,.int .i64 g] 118)=w6:=⟨_,rfl⟩;have hb6:Below w5.heap.size w5 w6:=(by rw[←hw6];exact bR.alloc nL _);have HX6:Hid (ABox w6 w5.heap.size 118 [.int .i64 s.entry,.int .i64 y,.int .i64 f,.int .i64 u,.int .i64 g]):=Lh (by rw[←hw6];exact heap_alloc_new w5 _);have HO6:=Lh (HO5.out.below hb6);have HB6:Hid (Below wb.heap.size wb w6):=Lh (HB5.out.trans (hb6.mono HB5.out.size));rw[hw6];have hse:=HGS.out.1;have hyr:=HYR.out;have HQ:Hid ((⟨s.entry,y,f,u,g⟩:Seal).ok∧0≤g∧g<16):=Lh ⟨⟨show I64 s.entry by unfold I64;omega,show I64 y by unfold I64;omega,show I64 f by unfold I64;omega,show I64 u by unfold I64;omega,show I64 g by unfold I64;omega⟩,by omega,by omega⟩;obtain⟨A5,c5,hv5,-⟩:=HO6.out.form;subst hv5;obtain⟨A6,c6,e6,hs6⟩:=HO6.out.sl;cases e6;have HAD:=Lh (radd_any A5 c5 sl.length sl ⟨s.entry,y,f,u,g⟩ w6 hs6 rfl HQ.out.1);obtain⟨er,her⟩:∃er,(saddE sl (⟨s.entry,y,f,u,g⟩:Seal)).2=er:=⟨_,rfl⟩;have HER:=Lh her;rw[her] at HAD;have x0:=HX6.out.cell 0 rfl;have x1:=HX6.out.cell 1 rfl;have x2:=HX6.out.cell 2 rfl;have x3:=HX6.out.cell 3 rfl;have x4:=HX6.out.cell 4 rfl;have HLE6:=Lh HLE.out;clear hf hg hu hfr hgr hur hw6 hb6 hs6 her hse hyr hxa hxb hq0 hq1 hvI hvl hvl2 hjn hjl hbv;by_cases he:er=0
     ·subst he
      go_wp2_with (first|(go_at_call 95;refine HAD.out.mono ?_;rintro r w7 ⟨v7,rfl,ho7,hb7⟩;have HO7:=Lh ho7;have HB7:Hid (Below wb.heap.size wb w7):=Lh (HB6.out.trans (hb7.mono HB6.out.size));have HZ6:=Lh HB6.out.size;clear ho7 hb7 x0 x1 x2 x3 x4)|fail)
      go_roundw
      case rel=>exact⟨k+1,sl++[⟨s.entry,y,f,u,g⟩],by go_num,by omega,by omega,Lh (by have:=HO7.out;rw[saddE_zero HER.out] at this;exact this.re HZ6.out),Lh (by have:=HLE6.out;rw[qA,List.length_singleton];omega),Lh (fun q hq=>by
       rcases List.mem_append.1 hq with h1|h1
       ·exact HOK.out q h1
       ·rw[List.mem_singleton] at h1
        subst h1
        exact HQ.out),HB7⟩
      case measure=>(first|(simp[intOf];done)|(simp[intOf];omega))
     ·have he2:(er==0)=false:=beq_eq_false_iff_ne.2 he
      go_wp2_with (first|(go_at_call 95;refine HAD.out.mono ?_;rintro r w7 ⟨v7,rfl,ho7,hb7⟩;have HO7:=Lh (HO6.out.below hb7);have HB7:Hid (Below wb.heap.size wb w7):=Lh (HB6.out.trans (hb7.mono HB6.out.size));clear ho7 hb7 x0 x1 x2 x3 x4)|fail)
      go_roundw;(case rel=>exact⟨k+1,sl,by go_num,by omega,by omega,HO7,Lh (by have:=HLE6.out;omega),HOK,HB7⟩);case measure=>(first|(simp[intOf];done)|(simp[intOf];omega))
   ·rw[decide_eq_false hlt];go_wp2_with fail;go_ret;exact⟨_,sl,rfl,HO.out.re HBA.out.size,by have:=HLE.out;omega,HOK.out,HBA.out.trans (HB.out.mono HBA.out.size)⟩
theorem GBk.good {m h:Int}{l:List SectP}(H:GBk m h l):GoodB m h l:=chkE_good H.noerr
theorem GoodB.sgood {m h:Int}{l:List SectP}(H:GoodB m h l):∀s∈l,SGood s:=fun s hs=>by
 have g:=H.s s hs;exact⟨g.e,by have:=g.n;omega,by have:=g.lim;omega,g.r⟩
def setO (w:World)(l:Nat)(o:Obj):World:={w with heap:=w.heap.setIfInBounds l o}
def valD (a:Nat)(l:List UInt8):Nat:=l.foldl (fun a c=>10*a+(c.toNat-48)) a
def valL (a:Nat)(l:List UInt8):Nat:=l.foldl (fun a c=>26*a+(c.toNat-97)+1) a
theorem sufF_val:∀(f n:Nat) (acc:List UInt8),n≤sufB f→f≤4→valL 0 (sufF f n acc)=valL n acc
 |0,n,acc,h,_=>by
  have:n=0:=(by simpa[sufB] using h);subst this;rfl
 |f+1,n,acc,h,hf=>by
  rw[sufF];split
  ·rename_i h0;rw[h0]
  ·rename_i h0;have hs:=(sufB_step h h0 hf).1;rw[sufF_val f _ _ hs (by omega)];have hc:(UInt8.ofNat (97+(n-1)%26)).toNat=97+(n-1)%26:=by
    have:=Nat.mod_lt (n-1) (show 0<26 by decide);rw[UInt8.toNat_ofNat'];omega
   show valL (26*((n-1)/26)+((UInt8.ofNat (97+(n-1)%26)).toNat-97)+1) acc=valL n acc;rw[hc];congr 1;omega
theorem sufF_az:∀(f n:Nat) (acc:List UInt8),(∀c∈acc,97≤c.toNat∧c.toNat≤122)→∀c∈sufF f n acc,97≤c.toNat∧c.toNat≤122
 |0,_,acc,h=>h
 |f+1,n,acc,h=>by
  rw[sufF];split
  ·exact h
  ·refine sufF_az f _ _ (fun c hc=>?_);rcases List.mem_cons.1 hc with rfl|hc
   ·have:=Nat.mod_lt (n-1) (show 0<26 by decide);rw[UInt8.toNat_ofNat'];omega
   ·exact h c hc
theorem valD_append (a:Nat)(l:List UInt8)(c:UInt8):valD a (l++[c])=10*valD a l+(c.toNat-48):=by unfold valD;rw[List.foldl_append];rfl
theorem Qep {d:Nat}(h:d<10):(UInt8.ofNat (48+d)).toNat=48+d:=by rw[UInt8.toNat_ofNat'];omega
theorem dec_facts:∀(k m:Nat),m<10^(k+1)→valD 0 (Lib.decDigits m)=m∧(∀c∈Lib.decDigits m,48≤c.toNat∧c.toNat≤57)∧(Lib.decDigits m).length≤k+1∧1≤(Lib.decDigits m).length∧(1≤m→((Lib.decDigits m).headD 0).toNat≠48):=by
 intro k;induction k with
 |zero=>
  intro m hm;have h10:m<10:=(by simpa using hm);rw[Lib.decDigits,dif_pos h10];refine⟨?_,?_,by simp,by simp,fun h=>?_⟩
  ·show 10*0+((UInt8.ofNat (48+m)).toNat-48)=m;rw[Qep h10];omega
  ·intro c hc;rw[List.mem_singleton] at hc;subst hc;rw[Qep h10];omega
  ·show(UInt8.ofNat (48+m)).toNat≠48;rw[Qep h10];omega
 |succ k ih=>
  intro m hm;by_cases h10:m<10
  ·have:=ih m (Nat.lt_of_lt_of_le h10 (by rw[Nat.pow_succ];have:0<10^k:=Nat.pow_pos (by decide);omega));exact⟨this.1,this.2.1,by omega,this.2.2.2.1,this.2.2.2.2⟩
  ·rw[Lib.decDigits,dif_neg h10];have hq:m/10<10^(k+1):=(by rw[Nat.pow_succ] at hm;omega);obtain⟨a1,a2,a3,a4,a5⟩:=ih (m/10) hq;have hd:=Nat.mod_lt m (show 0<10 by decide);refine⟨?_,?_,by rw[qA,List.length_singleton];omega,by rw[qA,List.length_singleton];omega,fun h=>?_⟩
   ·rw[valD_append,a1,Qep hd];omega
   ·intro c hc;rcases List.mem_append.1 hc with hc|hc
    ·exact a2 c hc
    ·rw[List.mem_singleton] at hc;subst hc;rw[Qep hd];omega
   ·cases hl:Lib.decDigits (m/10) with
    |nil=>rw[hl] at a4;simp at a4
    |cons x xs=>rw[hl] at a5;exact a5 (by omega)
theorem itoa_nat (n:Nat):Lib.itoa (n:Int)=Lib.decDigits n:=by unfold Lib.itoa;rw[if_neg (by omega)];rfl
/-! A label is known by its text. -/
theorem labT_inj {n s n' s':Nat}(hn:n≤16384)(hn':n'≤16384)(hs:s≤16384)(hs':s'≤16384)(h:labT n s=labT n' s'):n=n'∧s=s':=by
 have key:∀m t:Nat,m≤16384→t≤16384→valD 0 ((labT m t).data.toList.filter fun c=>decide (c.toNat<58))=m∧valL 0 ((labT m t).data.toList.filter fun c=> !decide (c.toNat<58))=t:=fun m t hm ht=>by
  obtain⟨h1,h2,-⟩:=dec_facts 4 m (by omega);have h3:=sufF_az 4 t [] (by simp)
  have h4:=sufF_val 4 t [] (by show t≤sufB 4;have:sufB 4=16384∨16384≤sufB 4:=by decide
                               omega) nL
  have e:(labT m t).data.toList=Lib.decDigits m++sufF 4 t []:=(by unfold labT;rw[itoa_nat]);rw[e,List.filter_append,List.filter_append];have f1:(Lib.decDigits m).filter (fun c=>decide (c.toNat<58))=Lib.decDigits m:=List.filter_eq_self.2 fun c hc=>decide_eq_true (by have:=h2 c hc;omega)
  have f2:(sufF 4 t []).filter (fun c=>decide (c.toNat<58))=[]:=List.filter_eq_nil_iff.2 fun c hc=>by have:=h3 c hc;simp;omega
  have f3:(Lib.decDigits m).filter (fun c=> !decide (c.toNat<58))=[]:=List.filter_eq_nil_iff.2 fun c hc=>by have:=h2 c hc;simp;omega
  have f4:(sufF 4 t []).filter (fun c=> !decide (c.toNat<58))=sufF 4 t []:=List.filter_eq_self.2 fun c hc=>by have:=h3 c hc;simp;omega
  rw[f1,f2,f3,f4,List.append_nil,List.nil_append];exact⟨h1,h4⟩
 have a:=key n s hn hs;have b:=key n' s' hn' hs';rw[h] at a;exact⟨a.1.symm.trans b.1,a.2.symm.trans b.2⟩
/-! All sections are frozen. -/
theorem GBk.frz {m h:Int}{l:List SectP}(H:GBk m h l):GBk m h (l.map Go.Proofs.YtegaapiocihcpaaGreatDoor.frz):=by
 refine⟨H.m1,H.m2,H.h1,H.h2,by rw[qM];exact H.n,?_⟩;obtain⟨f,hf⟩:=H.s;refine⟨l.length,fun i hi=>?_⟩;have hi':i<l.length:=by rw[qM] at hi;exact hi
 rw[List.getElem_map];obtain⟨h1,h2,j,h3,h4,h5,h6,h7⟩:=hf i hi';exact⟨h1,(decide_eq_true hi').symm,j,h3,fun h=>absurd (show true=false from h) (by decide),h5,h6,h7⟩
/-! One text more behind a section's texts. -/
section
variable {m h:Int} {l:List SectP} {k:Nat} (hk:k<l.length) (v:Int) (t:TextP)
theorem corrF (hf:l[k].frozen=true):QaO l[k] v t=⟨l[k].entry,true,l[k].vers++[v],l[k].texts++[t]⟩:=by
 unfold QaO;rw[hf,if_pos rfl,if_pos rfl]
theorem versB_app (m h e:Int):∀(ts ts':List TextP) (k:Nat) (num suf:Int) (vs vs':List Int),vs.length=ts.length→(QaJ m h e k num suf vs ts).Sublist (QaJ m h e k num suf (vs++vs') (ts++ts'))
 |[],ts',k,num,suf,vs,vs',hl=>by rw[QaJ];exact List.nil_sublist _
 |t::ts,ts',k,num,suf,[],vs',hl=>by simp at hl
 |t::ts,ts',k,num,suf,v::vs,vs',hl=>by
  rw[List.cons_append,List.cons_append,QaJ,QaJ];exact List.Sublist.append (List.Sublist.refl _) (versB_app m h e ts ts' _ _ _ vs vs' (by simpa using hl))
theorem sectsB_cor:∀(l:List SectP) (k:Nat) (hk:k<l.length) (num:Int),l[k].frozen=true→l[k].vers.length=l[k].texts.length→l[k].texts≠[]→(Qay m h num l).Sublist (Qay m h num (l.set k (QaO l[k] v t)))
 |[],k,hk,_,_,_,_=>absurd hk (by simp)
 |s::l,0,_,num,hf,hl,hn=>by
  rw[sZ0,Qay,Qay];have hf':s.frozen=true:=hf;have e:QaO s v t=⟨s.entry,true,s.vers++[v],s.texts++[t]⟩:=(by unfold QaO;rw[hf',if_pos rfl,if_pos rfl]);have hp:QaE m h (QaO s v t)=QaE m h s:=by
   rw[e];unfold QaE;dsimp only;have hn':s.texts≠[]:=hn;cases hs:s.texts with
   |nil=>exact absurd hs hn'
   |cons=>rfl
  show(QaJ m h s.entry 0 num 0 s.vers s.texts++Qay m h (num+QaE m h s) l).Sublist (QaJ m h (QaO s v t).entry 0 num 0 (QaO s v t).vers (QaO s v t).texts++Qay m h (num+QaE m h (QaO s v t)) l);rw[hp,e];exact List.Sublist.append (versB_app m h s.entry s.texts [t] 0 num 0 s.vers [v] hl) (List.Sublist.refl _)
 |s::l,k+1,hk,num,hf,hl,hn=>by
  rw[sS0,Qay,Qay];exact List.Sublist.append (List.Sublist.refl _) (sectsB_cor l k (by simpa using hk) _ hf hl hn)
end
theorem hasT_cor {l:List SectP}{k:Nat}(hk:k<l.length){v:Int}{t u:TextP}(hf:l[k].frozen=true)(hl:l[k].vers.length=l[k].texts.length){e x:Int}(h:hasT l e x=some u):hasT (l.set k (QaO l[k] v t)) e x=some u:=by
 have e1:=corrF hk v t hf;unfold hasT at h ⊢;obtain⟨s,hs,ht⟩:=Option.bind_eq_some_iff.1 h;obtain⟨hi,hs2⟩:=List.getElem?_eq_some_iff.1 hs
 have hen:(l.set k (QaO l[k] v t)).map (·.entry)=l.map (·.entry):=by
  rw[List.map_set,e1];have h1:l[k].entry=(l.map (·.entry))[k]'(by rw[qM];exact hk):=(by rw[List.getElem_map]);show(l.map (·.entry)).set k l[k].entry=_;rw[h1,List.set_getElem_self]
 have hfi:(l.set k (QaO l[k] v t)).findIdx (fun s=>decide (s.entry=e))=l.findIdx (fun s=>decide (s.entry=e)):=by
  have h1:∀q:List SectP,q.findIdx (fun s=>decide (s.entry=e))=(q.map (·.entry)).findIdx (fun z=>decide (z=e)):=fun q=>by rw[List.findIdx_map];rfl
  rw[h1,h1,hen]
 rw[hfi,List.getElem?_set];by_cases hki:k=l.findIdx (fun s=>decide (s.entry=e))
 ·rw[if_pos hki,if_pos hk,Option.bind_some,e1];dsimp only;have hsk:s=l[k]:=(by rw[←hs2];congr 1;exact hki.symm);rw[hsk] at ht;obtain⟨hj,-⟩:=List.getElem?_eq_some_iff.1 ht
  have hidx:(l[k].vers++[v]).findIdx (fun z=>decide (z=x))=l[k].vers.findIdx (fun z=>decide (z=x)):=by
   rw[List.findIdx_append,if_pos (by omega)]
  rw[hidx,List.getElem?_append_left hj];exact ht
 ·rw[if_neg hki,hs,Option.bind_some];exact ht
theorem GBk.sect {m h:Int}{l:List SectP}(H:GBk m h l){k:Nat}(hk:k<l.length):l[k].vers.length=l[k].texts.length∧l[k].texts≠[]∧l[k].vers.length≤3∧5000∉l[k].vers∧∀t∈l[k].texts,GText t.a t.b:=by
 obtain⟨f,hf⟩:=H.s;obtain⟨-,-,j,hj,-,hv,ht,hg⟩:=hf k hk;have hn:=H.n;refine⟨by rw[hv,Qbg,ht],fun e=>by rw[e] at ht;simp at ht,by rw[hv,Qbg];omega,fun hm=>?_,hg⟩;rw[hv] at hm;unfold QbU at hm;rcases List.mem_cons.1 hm with h1|h1
 ·omega
 ·obtain⟨q,hq,h2⟩:=List.mem_map.1 h1;have:=List.mem_range.1 hq;omega
theorem cor_pack {m h:Int}{l:List SectP}(H:GBk m h l){k:Nat}(hk:k<l.length)(hf:l[k].frozen=true){t:TextP}(hg:GText t.a t.b){l':List SectP}(hl':l.set k (QaO l[k] 5000 t)=l')(sl:List Seal):
 GoodB m h l'∧Tame l'∧(QaY m h l sl).Sublist (QaY m h l' sl):=by
 have hz:=H.siz;obtain⟨h1,h2,h3,h4,h5⟩:=H.sect hk;have e1:=corrF hk 5000 t hf;have hT:Tame l':=by
  rw[←hl'];refine⟨by rw[List.length_set];have:=H.n;omega,fun s hs=>?_⟩;rcases List.mem_or_eq_of_mem_set hs with h6|h6
  ·exact H.tame.v s h6
  ·rw[h6,e1];refine⟨by rw[qA];simp;omega,by rw[qA,qA,h1];exact Nat.le_refl _,fun u hu=>?_⟩;rcases List.mem_append.1 hu with h7|h7
   ·exact h5 u h7
   ·rw[List.mem_singleton] at h7;subst h7;exact hg
 have hp:=hT.pages hz;have hG:GoodB m h l':=by
  rw[←hl'] at hp ⊢;exact H.good.set hk rfl rfl (GoodS.corr (H.good.s _ (List.getElem_mem hk)) ⟨by decide,by decide⟩ h4 (hg.wrong ⟨hz.m1,hz.m2⟩ ⟨hz.h1,hz.h2⟩) (by rw[e1,qA];simp;omega)) (by omega)
 refine⟨hG,hT,?_⟩;have hs:(Qak m h l).Sublist (Qak m h l'):=by
  rw[←hl'];exact sectsB_cor 5000 t l k hk 0 hf h1 h2
 unfold QaY
 have e2:(Qak m h l).map (fun p=>Qc0 sl p (Qbv (Qbk l p)))=(Qak m h l).map (fun p=>Qc0 sl p (Qbv (Qbk l' p))):=by
  refine List.map_congr_left fun p hp=>?_
  obtain⟨u,hu,-⟩:=H.good.text p hp;have h6:=hasT_cor (v:=5000) (t:=t) hk hf h1 hu;rw[hl'] at h6;unfold Qbk;rw[hu,h6]
 rw[e2];exact hs.map _
theorem GoodB.labels {m h:Int}{l:List SectP}(H:GoodB m h l)(sl:List Seal):((QaY m h l sl).map (·.label)).Nodup:=by
 have h1:=H.lab;have h2:=H.pv;unfold QaY;rw[List.map_map];refine List.pairwise_map.2 (h1.imp_of_mem fun {p q} hp hq hlt e=>?_);have a:=h2 p hp;have b:=h2 q hq;have e':labT p.num.toNat p.suf.toNat=labT q.num.toNat q.suf.toNat:=e;have a1:=a.num;have a2:=a.suf;have b1:=b.num;have b2:=b.suf;have h3:=labT_inj (by omega) (by omega) (by omega) (by omega) e';unfold LtL at hlt;omega
instance:Rep MarkP where
 size:=5
 R _ _ cs x:=cs=[.int .i64 x.br,.int .i64 x.num,.int .i64 x.suf,.int .i64 x.line,.string x.words]
 len:=by rintro w S cs s rfl;rfl
 one:=by rintro w S cs s rfl u hu;simp at hu;rcases hu with rfl|rfl|rfl|rfl|rfl<;>rfl
 keep:=by rintro w w' S cs s h _;exact h
 mono:=by rintro w S S' cs s h _;exact h
structure MkI (B0:Nat)(W0:World)(r0:Option Nat)(v:Value)(l:List MarkP)(w:World):Prop where
 ow:Own w B0 61 v l
 ks:KS (fun i=>some i≠r0) W0 w
 rw:v.ownBlock=r0∨∀i,v.ownBlock=some i→W0.heap.size≤i
def lw (s:List UInt8):Word:=⟨⟨s.toArray⟩,⟨#[]⟩,0,0⟩
def lxW:List Word:=[lw [111,110,101],lw [116,119,111],lw [116,104,114,101,101],lw [102,111,117,114]]
def lxT:TextP:=⟨[lxW],[]⟩
def lx:List SectP:=[⟨5,false,[7],[lxT]⟩]
theorem frz_all (l:List SectP):∀s∈l.map frz,s.frozen=true:=fun s hs=>by
 obtain⟨x,-,rfl⟩:=List.mem_map.1 hs;rfl
theorem cfreeze_any {m h:Int}{l:List SectP}(H:GBk m h l)(A:Option Addr)(c:Nat)(w:World)(hs:Sl w (fun b=>b<w.heap.size) A c l):
 Calls Tryz.prog 44 #[.agg #[.int .i64 m,.int .i64 h,.slice A l.length c]] w fun e W'=>(∃A1 c1 l1,e=.returned (.agg #[.int .i64 m,.int .i64 h,.slice A1 l1.length c1])∧GBk m h l1∧(∀s∈l1,s.frozen=true)∧Sl W' (fun b=>b<W'.heap.size) A1 c1 l1)∧Below w.heap.size w W':=by
 refine(freeze_any A c l m h w hs H.tame.short).mono ?_;rintro e W' ⟨v,rfl,ho,hb⟩;obtain⟨A1,c1,rfl,h1⟩:=ho.plain.sl;exact⟨⟨A1,c1,_,rfl,H.frz,frz_all l,h1⟩,hb⟩
theorem ctext_any (A:Option Addr)(c n:Nat)(l:List Int)(w:World)(hl:Sl w (fun b=>b<w.heap.size) A c l)(hn:l.length=n):
 Calls Tryz.prog 34 #[.slice A n c] w fun e w'=>(∃At ct Bt dt ta tb,e=.returned (.agg #[.slice At ta.length ct,.slice Bt tb.length dt])∧GText ta tb∧Sl w' (fun b=>b<w'.heap.size) At ct ta∧Sl w' (fun b=>b<w'.heap.size) Bt dt tb)∧Below w.heap.size w w':=by
 subst hn;refine(text_any A c l w hl).mono ?_;rintro e V3 ⟨v,vn,a,b,rfl,hg,⟨Bq,us,un,h1,h2⟩,hb⟩;obtain⟨At,ct,rfl,hsv⟩:=h1.sl hg.lens.1;obtain⟨Bt,dt,rfl,hsn⟩:=h2.sl hg.lens.2;exact⟨⟨At,ct,Bt,dt,a,b,rfl,hg,hsv.mono fun i _ hi=>hi,hsn.mono fun i _ hi=>hi⟩,hb⟩
theorem find_self {l:List SectP}(hd:(l.map (·.entry)).Nodup){k:Nat}(hk:k<l.length):QbB l l[k].entry=(k:Int):=
 QeA hk rfl fun i hi e=>by
  have:=(List.pairwise_iff_getElem.1 hd) i k (by rw[qM];omega) (by rw[qM];exact hk) hi;rw[List.getElem_map,List.getElem_map] at this;exact this e
theorem ccor_any {m h e:Int}{l:List SectP}(H:GBk m h l){k n:Nat}(hk:k<l.length){s:SectP}(hs:l[k]=s)(hf:s.frozen=true)(hn:l.length=n)(he:s.entry=e){A At Bt:Option Addr}{c ct dt:Nat}{ta tb:List (List Word)}{w:World}(hT:Tabs w) (hsl:Sl w (fun b=>b<w.heap.size) A c l) (hg:GText ta tb) (h1:Sl w (fun b=>b<w.heap.size) At ct ta) (h2:Sl w (fun b=>b<w.heap.size) Bt dt tb):
 Calls Tryz.prog 49 #[.agg #[.int .i64 m,.int .i64 h,.slice A n c],.int .i64 e,.int .i64 5000,.agg #[.slice At ta.length ct,.slice Bt tb.length dt]] w fun x W'=>(∃An cn,x=.returned (.tuple #[.agg #[.int .i64 m,.int .i64 h,.slice An n cn],.int .i64 0])∧Sl W' (Up w.heap.size) An cn (l.set k (QaO s 5000 ⟨ta,tb⟩)))∧Below w.heap.size w W':=by
 have hz:=H.siz;have hp:=cor_pack H hk (by rw[hs];exact hf) (t:=⟨ta,tb⟩) hg rfl [];rw[hs] at hp;have h5:=H.sect hk;rw[hs] at h5;have hfd:QbB l e=(k:Int):=by rw[←he,←hs];exact find_self H.good.d hk
 have hlim:(QaO s 5000 ⟨ta,tb⟩).vers.length≤100:=by
  have:=corrF hk 5000 ⟨ta,tb⟩ (by rw[hs];exact hf);rw[hs] at this;rw[this,qA];simp;omega
 subst hn;refine(correct_frozen A c l m h e 5000 At Bt ct dt ta tb w hT.1 hsl H.tame.short H.tame.wf ⟨by have:=hz.h1;omega,by have:=hz.h2;omega⟩ h1 h2 hg.short.1 hg.short.2 k hk hfd s (by rw[qG hk,hs]) hf (by decide) h5.2.2.2.1 (hg.wrong ⟨hz.m1,hz.m2⟩ ⟨hz.h1,hz.h2⟩) hlim (by have:=hp.1.p;omega)).mono ?_;rintro x W' ⟨v,rfl,ho,hb⟩;obtain⟨An,cn,rfl,h6⟩:=ho.sl;rw[List.length_set];exact⟨⟨An,cn,by unfold fitsV;rw[if_neg (by have:=hp.1.p;omega)],h6⟩,hb⟩
theorem cadd_any {A B C:Option Addr}{ca cb cc n N M:Nat}{p q:Led}{l:List SheetP}{w:World}(hK:KLaid w)(hl:Sl w (fun b=>b<w.heap.size) A ca p.1)(hn:@Sl ByteArray repStrZ w (fun b=>b<w.heap.size) B cb p.2)(hs:Sl w (fun b=>b<w.heap.size) C cc l) (h1:p.1.length=n) (h2:p.2.length=n) (h3:l.length=N) (hlm:n+N≤1048576) (hsz:∀s∈cerL l,(Qbm 3 s).length≤1073740000) (hq:addAll 3 p (cerL l)=q) (h4:q.1.length=M) (h5:q.2.length=M):
 Calls Tryz.prog 47 #[.agg #[.slice A n ca,.slice B n cb],.int .i64 3,.slice C N cc] w fun e w'=>(∃A1 c1 B1 d1,e=.returned (.agg #[.slice A1 M c1,.slice B1 M d1])∧Sl w' (fun b=>b<w'.heap.size) A1 c1 q.1∧@Sl ByteArray repStrZ w' (fun b=>b<w'.heap.size) B1 d1 q.2)∧Below w.heap.size w w':=by
 have:=add_any 3 A B C ca cb cc p.1 p.2 (cerL l) w ⟨by decide,by decide⟩ hl hn (sl_cer hs) (by rw[h1,h2]) (by rw[QbI,h1,h3];exact hlm) hsz hK;rw[h1,h2,QbI,h3] at this;refine this.mono ?_;rintro e w' ⟨v1,v2,rfl,o1,o2,hb⟩;have e1:addAll 3 (p.1,p.2) (cerL l)=q:=hq;rw[e1] at o1 o2;obtain⟨A1,c1,rfl,s1⟩:=o1.sl;obtain⟨B1,d1,rfl,s2⟩:=@Own.sl ByteArray repStrZ _ _ _ _ _ o2;exact⟨⟨A1,c1,B1,d1,by rw[h4,h5],s1,s2⟩,hb⟩
theorem cproof_any {A B:Option Addr}{ca cb n N:Nat}{p:Led}{x:ByteArray}{w:World}(hK:KLaid w)(hl:Sl w (fun b=>b<w.heap.size) A ca p.1)(hn:@Sl ByteArray repStrZ w (fun b=>b<w.heap.size) B cb p.2) (h1:p.1.length=n) (h2:p.2.length=n) (hlm:n≤1048576) {i:Int} (hi:QbF p.2 x=i) (hb:proofB p.2 x=true) {P:List H32} (hP:Qbw p.1 p.2 x=P) (hN:P.length=N):
 Calls Tryz.prog 51 #[.agg #[.slice A n ca,.slice B n cb],.string x] w fun e w'=>(∃A1 c1,e=.returned (.tuple #[.int .i64 i,.slice A1 N c1,.bool true])∧Sl w' (fun b=>b<w'.heap.size) A1 c1 P)∧Below w.heap.size w w':=by
 have:=Qem A B ca cb p.1 p.2 x w hl hn (by rw[h1,h2]) (by omega) hK;rw[h1,h2,hi,hb,hP,hN] at this;refine this.mono ?_;rintro e w' ⟨A1,c1,rfl,h3,h4⟩;exact⟨⟨A1,c1,rfl,h3⟩,h4⟩
theorem ccheck_any {n:Nat}{i:Int}{s:SheetP}{r:List UInt8}{A B C:Option Addr}{c d cp N nb nn:Nat}{P:List H32}{w:World}(hK:KLaid w)(hr:r.length=32)(hb:s.body.length=nb)(hn:s.notes.length=nn)(h1:Sl w (fun b=>b<w.heap.size) A c s.body)(h2:Sl w (fun b=>b<w.heap.size) B d s.notes) (hsz:(Qbm 3 (cerS s)).length≤1073740000) (hp:Sl w (fun b=>b<w.heap.size) C cp P) (hN:P.length=N) (hc:QcY (n:Int) r 3 (cerS s) i P=true):
 Calls Tryz.prog 52 #[headV (n:Int) r,.int .i64 3,.agg #[.string s.label,.slice A nb c,.slice B nn d],.int .i64 i,.slice C N cp] w fun e w'=>e=.returned (.bool true)∧Below w.heap.size w w':=by
 subst hb;subst hn;have:=QdA (n:Int) 3 i r (cerS s) A B C c d cp N P w hr ⟨by decide,by decide⟩ (str_cer h1) (str_cer h2) hsz hp hN hK;rw[hc] at this;exact this

structure LvI (W1 w:World)(b0 bb:Nat)(Ab:Option Addr)(cb:Nat):Prop where
 b:Below W1.heap.size W1 w
 tx:ABox w (b0+1+1) 36 [.slice (some ⟨b0+1,0,none⟩) 1 1,.slice none 0 0]
 ts:Sl w (fun b=>b<w.heap.size) (some ⟨b0+1,0,none⟩) 1 [lxW]
 bx:ABox w bb 25 [.int .i64 500,.int .i64 10,.slice Ab lx.length cb]
 sm:SM w Ab cb lx


section
variable {m h:Int} {A:Option Addr} {c:Nat} {l:List SectP} (n N:Nat) (As:Option Addr) (cs ns:Nat) (sl:List Seal) {w:World}
theorem QeG (H:BookOk w m h A c l)(hT:Tabs w)(heq:∀s∈l,s.texts.length=s.vers.length)(hP:∀p∈Qak m h l,PgV l p)(hps:(Qak m h l).length≤1048576)(hsl:Sl w (fun b=>b<w.heap.size) As cs sl)(hn:sl.length=ns)(hsz:ns≤1048576)(hg:∀s∈sl,0≤s.g∧s.g<16) (hl:l.length=n) {L:List SheetP} (hL:QaY m h l sl=L) (hN:L.length=N):
 Calls Tryz.prog 16 #[.agg #[.int .i64 m,.int .i64 h,.slice A n c],.slice As ns cs] w fun r W'=>(∃A1 c1,r=.returned (.slice A1 N c1)∧Sl W' (fun i=>i<W'.heap.size) A1 c1 L)∧Below w.heap.size w W':=by
 subst hl;subst hL;subst hN;refine(sheets_any As cs ns sl H hT heq hP hps hsl hn hsz hg).mono ?_;rintro r W' ⟨v,rfl,ho,hb⟩;obtain⟨A1,c1,rfl,hs⟩:=ho.sl;exact⟨⟨A1,c1,rfl,hs⟩,hb⟩
theorem pagesS_any (H:BookOk w m h A c l)(hl:l.length=n){L:List PageP}(hL:Qak m h l=L)(hN:L.length=N):
 Calls Tryz.prog 26 #[.agg #[.int .i64 m,.int .i64 h,.slice A n c]] w fun r W'=>(∃A1 c1,r=.returned (.slice A1 N c1)∧Sl W' (fun i=>i<W'.heap.size) A1 c1 L)∧Below w.heap.size w W':=by
 subst hl;subst hL;subst hN;refine(QeV H).mono ?_;rintro r W' ⟨v,R,rfl,ho,-,hb⟩;obtain⟨A1,c1,rfl,hs⟩:=ho.plain.sl;exact⟨⟨A1,c1,rfl,hs⟩,hb⟩
end
def SP.prf (i:Int)(N:Nat)(P:List H32):SP:=⟨fun v W=>∃A c,v=.tuple #[.int .i64 i,.slice A N c,.bool true]∧Sl W (fun b=>b<W.heap.size) A c P,fun _ _ _ h hb=>by
 obtain⟨A,c,h1,h2⟩:=h
 exact⟨A,c,h1,h2.to hb⟩⟩
theorem zto {w w':World}{A:Option Addr}{c:Nat}{l:List ByteArray}(h:@Sl ByteArray repStrZ w (fun b=>b<w.heap.size) A c l)(hb:Below w.heap.size w w'):@Sl ByteArray repStrZ w' (fun b=>b<w'.heap.size) A c l:=@Sl.to ByteArray repStrZ _ _ _ _ _ h hb
theorem cer_labels (l:List SheetP):(cerL l).map (·.label)=l.map (·.label):=by unfold cerL cerS;rw[List.map_map];rfl
set_option maxRecDepth 100000 in
theorem Qd0 (A0:Option Addr)(c0:Nat)(l0:List Int)(A1:Option Addr)(c1:Nat)(l1:List Int)(A2:Option Addr)(c2:Nat)(l2:List Int)(x:Int)(W1:World)(hs0:Sl W1 (fun b=>b<W1.heap.size) A0 c0 l0)(hs1:Sl W1 (fun b=>b<W1.heap.size) A1 c1 l1)(hs2:Sl W1 (fun b=>b<W1.heap.size) A2 c2 l2)(hx:I64 x)(hT:Tabs W1)(hKL:KLaid W1):
 Calls Tryz.prog 12 #[.slice A0 l0.length c0,.slice A1 l1.length c1,.slice A2 l2.length c2,.int .i64 x] W1 fun e w'=>e=.returned (.bool true)∧Below W1.heap.size W1 w':=by
 have HT:=Lh hT;have HK:=Lh hKL;have HI:=Lh hx;have HBK:=Lh (gbook_any A0 c0 l0 W1 hs0);have HS1:=Lh hs1;have HS9:=Lh hs2;obtain⟨n0,hn0⟩:∃q,l0.length=q:=⟨_,rfl⟩;obtain⟨n1,hn1⟩:∃q,l1.length=q:=⟨_,rfl⟩;obtain⟨n2,hn2⟩:∃q,l2.length=q:=⟨_,rfl⟩;have HN1:=Lh hn1;have HN2:=Lh hn2;rw[hn0] at HBK;rw[hn0,hn1,hn2];clear hT hKL hx hs0 hs1 hs2 hn0 hn1 hn2;go_enter Tryz.func12,Tryz.ntmps12
 go_upto_region 2 with(first|(go_at_call 45;refine HBK.out.mono ?_;rintro e V0 ⟨m,h,Ak0,ck0,ss0,rfl,hg,hs,hb⟩;have HG0:=Lh hg;have HV0:=Lh hb;have HS0:=Lh (hs.mono (S':=fun i=>i<V0.heap.size) fun i _ hi=>hi);clear hg hs hb)|(go_at_call 44;refine(cfreeze_any HG0.out Ak0 ck0 V0 HS0.out).mono ?_;rintro e V1 ⟨⟨Ak,ck,ss,rfl,hg,hf,hs⟩,hb⟩;have HG:=Lh hg;have HFZ:=Lh hf;have HSS:=Lh hs;have HV1:=Lh (HV0.out.trans (hb.mono HV0.out.size));clear hg hf hs hb)|fail)
 clear HBK HG0 HS0 HV0;obtain⟨W2,hW⟩:∃W2,V1.alloc (.cells #[.int .i64 m,.int .i64 h,.slice Ak ss.length ck] 25)=W2:=⟨_,rfl⟩;obtain⟨b1,hbk⟩:∃b1,V1.heap.size=b1:=⟨_,rfl⟩;rw[hW,hbk];have hb2:Below V1.heap.size V1 W2:=by rw[←hW];exact bR.alloc nL _
 have HX:=Lh (show ABox W2 b1 25 [.int .i64 m,.int .i64 h,.slice Ak ss.length ck] by rw[←hW,←hbk];exact heap_alloc_new V1 _);have HB:Hid (Below W1.heap.size W1 W2):=Lh (HV1.out.trans (hb2.mono HV1.out.size));have HS2:Hid (Sl W2 (fun b=>b<W2.heap.size) Ak ck ss):=Lh (HSS.out.to hb2);clear HSS HV1 hW hbk hb2;obtain⟨n,hn⟩:∃q,ss.length=q:=⟨_,rfl⟩;have HNN:=Lh hn;have HSE:=Lh (rseals_any A1 c1 l1 m h Ak ck ss W2 (HS1.out.to HB.out) HS2.out HG.out.good.sgood (by have:=HG.out.n;omega));rw[HN1.out] at HSE;rw[hn] at HX HSE ⊢;have hnk:n≤ck:=by rw[←hn];exact HS2.out.1
 clear hn HS1;have HT2:=Lh (HT.out.to HB.out);have HK2:=Lh (HK.out.to HB.out);have HTM:=Lh HG.out.tame;have HBO:Hid (∀W,Below W2.heap.size W2 W→BookOk W m h Ak ck ss):=Lh fun W hW=>(show SM W Ak ck ss from⟨HT2.out.to hW,HS2.out.to hW⟩).bookT HTM.out HG.out.siz
 have HPV:=Lh HG.out.good.pv;have HEQ:Hid (∀s∈ss,s.texts.length=s.vers.length):=Lh fun s hs=>(HG.out.good.s s hs).nt.symm
 have HPN:Hid ((Qak m h ss).length≤16384):=Lh HG.out.good.p;have HCB:Hid (∀W,Below W2.heap.size W2 W→W.cell? ⟨b1,0,none⟩=some (.int .i64 m)∧W.cell? ⟨b1,1,none⟩=some (.int .i64 h)∧W.cell? ⟨b1,2,none⟩=some (.slice Ak n ck)):=Lh fun W hW=>⟨(HX.out.to hW).cell 0 rfl,(HX.out.to hW).cell 1 rfl,(HX.out.to hW).cell 2 rfl⟩
 have q0:=HX.out.cell 0 rfl;have q1:=HX.out.cell 1 rfl;have q2:=HX.out.cell 2 rfl
 go_upto_region 3 with(first|(go_at_call 46;refine HSE.out.mono ?_;rintro e W3 ⟨v,sl,rfl,ho,hn6,hok,hb⟩;obtain⟨As,cs,rfl,hsl⟩:=ho.sl;have HSL:=Lh hsl;have HN6:=Lh hn6;have HOK:=Lh hok;have HB3:=Lh hb;clear ho hn6 hok hsl hb q0 q1 q2)|fail)
 clear HSE;obtain⟨ns,hns⟩:∃q,sl.length=q:=⟨_,rfl⟩;have HNS:=Lh hns;have HNZ:Hid (ns≤1048576):=Lh (by have:=HN6.out;omega);have HSG:Hid (∀s∈sl,0≤s.g∧s.g<16):=Lh fun s hs=>(HOK.out s hs).2
 rw[hns];clear hns HN6 HOK;obtain⟨S,hS⟩:∃q,QaY m h ss sl=q:=⟨_,rfl⟩;have HSD:=Lh hS;obtain⟨N1,hN1⟩:∃q,S.length=q:=⟨_,rfl⟩;have HNA:=Lh hN1;have hp1:(Qak m h ss).length=N1:=by rw[←hN1,←hS];unfold QaY;rw[qM]
 have HNP:=Lh hp1;have HN16:Hid (N1≤16384):=Lh (by rw[←hp1];exact HPN.out);have HLB1:Hid ((S.map (·.label)).Nodup):=Lh (by rw[←hS];exact HG.out.good.labels sl);have HSZ1:Hid (∀s∈cerL S,(Qbm 3 s).length≤1073740000):=Lh (by rw[←hS];exact QeI HG.out.good HTM.out sl);have HSH:=Lh (QeG n N1 As cs ns sl (HBO.out W3 HB3.out) (HT2.out.to HB3.out) HEQ.out HPV.out (by have:=HPN.out;omega) HSL.out HNS.out HNZ.out HSG.out HNN.out hS hN1);clear hS hN1 hp1;have q0:=(HCB.out W3 HB3.out).1;have q1:=(HCB.out W3 HB3.out).2.1;have q2:=(HCB.out W3 HB3.out).2.2
 go_upto_region 4 with(first|(go_at_call 16;refine HSH.out.mono ?_;rintro e W4 ⟨⟨A3,c3,rfl,hs⟩,hb⟩;have HS4:=Lh hs;have HB4:=Lh (HB3.out.trans (hb.mono HB3.out.size));have HL4:=Lh (HSL.out.to hb);clear hs hb q0 q1 q2)|fail)
 clear HSH HSL HB3;obtain⟨o,ho⟩:∃q,addAll 3 (([],[]):Led) (cerL S)=q:=⟨_,rfl⟩;have HO1:=Lh ho;have hpk:=led_pack 3 (List.Sublist.refl (cerL S)) (by rw[cer_labels];exact HLB1.out) ho rfl;have HCS:Hid ((cerL S).length=N1):=Lh (by rw[QbI];exact HNA.out);have HOA:Hid (o.1.length=N1):=Lh (hpk.1.trans HCS.out);have HOB:Hid (o.2.length=N1):=Lh (hpk.2.1.trans HCS.out);have HAD:=Lh (cadd_any (A:=none) (B:=none) (ca:=0) (cb:=0) (n:=0) (p:=(([],[]):Led)) (HK2.out.to HB4.out) (Sl.nil _ _ _ _ (by decide)) (@Sl.nil ByteArray repStrZ _ _ _ _ (by decide)) HS4.out rfl rfl HNA.out (by have:=HN16.out;omega) HSZ1.out ho HOA.out HOB.out);clear ho hpk
 go_upto_region 5 with(first|(go_at_call 47;refine HAD.out.mono ?_;rintro e V5 ⟨⟨Aa,ca,Ab,cb,rfl,ha,hb⟩,hbl⟩;have HA5:=Lh ha;have HB5:=Lh hb;have HV5:=Lh hbl;clear ha hb hbl)|fail)
 clear HAD;obtain⟨W6,hW6⟩:∃W6,V5.alloc (.cells #[.slice Aa N1 ca,.slice Ab N1 cb] 92)=W6:=⟨_,rfl⟩;obtain⟨X6,hX6⟩:∃q,V5.heap.size=q:=⟨_,rfl⟩;have hb6:Below V5.heap.size V5 W6:=by rw[←hW6];exact bR.alloc nL _
 have HXL:Hid (ABox W6 X6 92 [.slice Aa N1 ca,.slice Ab N1 cb]):=Lh (by rw[←hW6,←hX6];exact heap_alloc_new V5 _);have h46:Below W4.heap.size W4 W6:=HV5.out.trans (hb6.mono HV5.out.size);have HB6:Hid (Below W2.heap.size W2 W6):=Lh (HB4.out.trans (h46.mono HB4.out.size));have HS6:=Lh (HS4.out.to h46);have HL6:=Lh (HL4.out.to h46);have HA6:=Lh (HA5.out.to hb6);have HC6:Hid (@Sl ByteArray repStrZ W6 (fun b=>b<W6.heap.size) Ab cb o.2):=Lh (zto HB5.out hb6);rw[hW6,hX6];clear hW6 hX6 hb6 h46 HV5 HA5 HB5 HS4 HL4 HB4;have HCL:Hid (∀W,Below W6.heap.size W6 W→W.cell? ⟨X6,0,none⟩=some (.slice Aa N1 ca)∧W.cell? ⟨X6,1,none⟩=some (.slice Ab N1 cb)):=Lh fun W hW=>⟨(HXL.out.to hW).cell 0 rfl,(HXL.out.to hW).cell 1 rfl⟩
 have q0:=(HCB.out W6 HB6.out).1;have q1:=(HCB.out W6 HB6.out).2.1;have q2:=(HCB.out W6 HB6.out).2.2;have x0:=HXL.out.cell 0 rfl;have x1:=HXL.out.cell 1 rfl;have hnn:((N1:Int) != (N1:Int))=false:=by simp
 have HPG:=Lh (pagesS_any n N1 (HBO.out W6 HB6.out) HNN.out rfl HNP.out)
 go_upto_region 7 with(first|(go_at_call 26;refine HPG.out.mono ?_;rintro e W7 ⟨⟨Ap,cp,rfl,-⟩,hb⟩;have HB67:=Lh hb;clear hb q0 q1 q2 x0 x1)|fail)
 clear HPG hnn;have HB7:Hid (Below W2.heap.size W2 W7):=Lh (HB6.out.trans (HB67.out.mono HB6.out.size));have q0:=(HCB.out W7 HB7.out).1;have q1:=(HCB.out W7 HB7.out).2.1;have q2:=(HCB.out W7 HB7.out).2.2;by_cases h0:n=0
 ·subst h0;have HL:=Lh (lives_any W7 (HK2.out.to HB7.out))
  go_wp2_with (first|(go_at_call 48;refine HL.out.mono ?_;rintro e w2 ⟨rfl,hb2⟩;have HBE:Hid (Below W1.heap.size W1 w2):=Lh (HB.out.trans ((HB7.out.trans (hb2.mono HB7.out.size)).mono HB.out.size));clear hb2)|fail)
  go_ret;exact⟨rfl,HBE.out⟩
 have hz0:((n:Int)==0)=false:=beq_eq_false_iff_ne.2 (by omega);go_upto_region 9 with(fail);clear hz0;have har:=aro_lt x (n:Int) (by omega);obtain⟨k,hk⟩:=Int.eq_ofNat_of_zero_le har.1;have hkn:k<n:=by have:=har.2;omega
 have HKA:Hid (aro x (n:Int)=(k:Int)):=Lh hk;have hkl:k<ss.length:=by rw[HNN.out];exact hkn
 obtain⟨bs,os,Ag,cg,An,cn,hA,hbl,-,s0,-,-,-,-,-,-⟩:=Qds HS2.out hkl;obtain⟨s,hs⟩:∃q,ss[k]=q:=⟨_,rfl⟩;rw[hs] at s0;have HKS:Hid (∃hk:k<ss.length,ss[k]=s):=Lh ⟨hkl,hs⟩;have HSF:Hid (s.frozen=true):=Lh (by rw[←hs];exact HFZ.out _ (List.getElem_mem hkl));obtain⟨en,hen⟩:∃q,s.entry=q:=⟨_,rfl⟩;rw[hen] at s0;have HEN:=Lh hen;have HCE:Hid (∀W,Below W2.heap.size W2 W→W.cell? ⟨bs,os+k*4,none⟩=some (.int .i64 en)):=Lh fun W hW=>(hW.cell (p:=⟨bs,os+k*4,none⟩) hbl).trans s0
 subst hA;have hkI:(k:Int)<(n:Int):=by omega
 have hkc:(k:Int)<(ck:Int):=by omega
 clear har hk hkl hs hen s0 hbl q0 q1 q2;refine Qap [6] (fun i=>if i=6 then SP.val (.int .i64 (k:Int)) else SP.any) 11 (by kernel_rfl) (by kernel_rfl) ?_;intro Tq _ g hg hgm;have HD2:Hid (∀d,Below W2.heap.size W2 (g d)):=Lh fun d=>HB7.out.trans ((hg d).mono HB7.out.size)
 have q0:∀d,(g d).cell? ⟨b1,0,none⟩=some (.int .i64 m):=fun d=>(HCB.out (g d) (HD2.out d)).1
 have q1:∀d,(g d).cell? ⟨b1,1,none⟩=some (.int .i64 h):=fun d=>(HCB.out (g d) (HD2.out d)).2.1
 have q2:∀d,(g d).cell? ⟨b1,2,none⟩=some (.slice (some ⟨bs,os,none⟩) n ck):=fun d=>(HCB.out (g d) (HD2.out d)).2.2
 have s0:∀d,(g d).cell? ⟨bs,os+k*4,none⟩=some (.int .i64 en):=fun d=>HCE.out (g d) (HD2.out d)
 (repeat(refine Qao (by rfl) fun Kq hq=>?_;go_big_quiet_step (fail);refine wpQuiet_nil (hq _ ?_);clear hq Kq));refine QaG (by rfl) (by rfl) (fun d hG K Q hK=>?_) (fun v d hG hp Kr hr=>?_)
 ·go_simp;go_at_call 39;refine(around_any x (n:Int) (g d) HI.out (by omega) (by have:=HG.out.n;have:=HNN.out;omega)).mono ?_;rintro e Wz ⟨rfl,rfl⟩;go_simp;exact hK _ _ bR (by show Value.int .i64 _=Value.int .i64 _;rw[HKA.out])
 have hp:v=.int .i64 (k:Int):=hp;subst hp;(try clear hp);clear hG;go_frame;refine hr _ ?_;clear hr Kr;(repeat(refine Qao (by rfl) fun Kq hq=>?_;go_big_quiet_step (fail);refine wpQuiet_nil (hq _ ?_);clear hq Kq));refine Qeq (by kernel_rfl) (fun d hG=>?_) _;have HB78:Hid (Below W7.heap.size W7 (g d)):=Lh (hg d);clear q0 q1 q2 s0 HD2;have HBd:=Lh (hg d);clear hG hg hgm;unfold Exit.then;generalize g d=w8 at*;clear g;have HB8:Hid (Below W2.heap.size W2 w8):=Lh (HB7.out.trans (HB78.out.mono HB7.out.size));have HB68:Hid (Below W6.heap.size W6 w8):=Lh (HB67.out.trans (HB78.out.mono HB67.out.size));have HTX:Hid (∀W,Below w8.heap.size w8 W→Calls Tryz.prog 34 #[.slice A2 n2 c2] W fun e w'=>(∃At ct Bt dt ta tb,e=.returned (.agg #[.slice At ta.length ct,.slice Bt tb.length dt])∧GText ta tb∧Sl w' (fun b=>b<w'.heap.size) At ct ta∧Sl w' (fun b=>b<w'.heap.size) Bt dt tb)∧Below W.heap.size W w'):=Lh fun W hW=>ctext_any A2 c2 n2 l2 W (HS9.out.to (HB.out.trans ((HB8.out.trans (hW.mono HB8.out.size)).mono HB.out.size))) HN2.out
 have HCO:Hid (∀(W:World) (At Bt:Option Addr) (ct dt:Nat) (ta tb:List (List Word)),Below w8.heap.size w8 W→GText ta tb→Sl W (fun b=>b<W.heap.size) At ct ta→Sl W (fun b=>b<W.heap.size) Bt dt tb→Calls Tryz.prog 49 #[.agg #[.int .i64 m,.int .i64 h,.slice (some ⟨bs,os,none⟩) n ck],.int .i64 en,.int .i64 5000,.agg #[.slice At ta.length ct,.slice Bt tb.length dt]] W fun x W'=>(∃An cn,x=.returned (.tuple #[.agg #[.int .i64 m,.int .i64 h,.slice An n cn],.int .i64 0])∧Sl W' (Up W.heap.size) An cn (ss.set k (QaO s 5000 ⟨ta,tb⟩)))∧Below W.heap.size W W'):=Lh fun W At Bt ct dt ta tb hW hg h1 h2=>by
  obtain⟨hk,hs⟩:=HKS.out;have h9:=HB8.out.trans (hW.mono HB8.out.size);exact ccor_any HG.out hk hs HSF.out HNN.out HEN.out (HT2.out.to h9) (HS2.out.to h9) hg h1 h2
 have HSS:Hid (∀W,Below w8.heap.size w8 W→W.cell? ⟨b1,0,none⟩=some (.int .i64 m)∧W.cell? ⟨b1,1,none⟩=some (.int .i64 h)∧W.cell? ⟨b1,2,none⟩=some (.slice (some ⟨bs,os,none⟩) n ck)):=Lh fun W hW=>HCB.out W (HB8.out.trans (hW.mono HB8.out.size))
 go_upto_region 10 with(fail);refine region_cut (fun a a' w'=>∃At ct Bt dt ta tb An cn bn,a'=((((((((((a.put (some 68) (.agg #[.int .i64 m,.int .i64 h,.slice (some ⟨bs,os,none⟩) n ck])).put (some 69) (.int .i64 en)).put (some 70) (.slice A2 n2 c2)).put (some 71) (.agg #[.slice At ta.length ct,.slice Bt tb.length dt])).put (some 72) (.tuple #[.agg #[.int .i64 m,.int .i64 h,.slice An n cn],.int .i64 0])).put (some 67) (.tuple #[.agg #[.int .i64 m,.int .i64 h,.slice An n cn],.int .i64 0])).put (some 73) (.agg #[.int .i64 m,.int .i64 h,.slice An n cn])).put (some 74) (.int .i64 0)).put (some 14) (.pointer (some ⟨bn,0,none⟩))).put (some 15) (.int .i64 0))∧GText ta tb∧ABox w' bn 25 [.int .i64 m,.int .i64 h,.slice An n cn]∧Sl w' (fun i=>i<w'.heap.size) An cn (ss.set k (QaO s 5000 ⟨ta,tb⟩))∧w8.heap.size≤bn∧Below w8.heap.size w8 w') ?_ ?_
 ·refine Qaj (fun w'=>w'.cell? ⟨b1,0,none⟩=some (.int .i64 m)∧w'.cell? ⟨b1,1,none⟩=some (.int .i64 h)∧w'.cell? ⟨b1,2,none⟩=some (.slice (some ⟨bs,os,none⟩) n ck)) (fun i=>decide (i<6)||decide (i=8)) (by kernel_rfl) ?_;obtain⟨V0,hV0⟩:∃V0,w8.drew=V0:=⟨_,rfl⟩;have hbd:Below w8.heap.size w8 V0:=(by rw[←hV0];exact bR.drew);have HB0:=Lh hbd;rw[hV0];clear hV0 hbd;have hS0:V0.cell? ⟨b1,0,none⟩=some (.int .i64 m)∧V0.cell? ⟨b1,1,none⟩=some (.int .i64 h)∧V0.cell? ⟨b1,2,none⟩=some (.slice (some ⟨bs,os,none⟩) n ck):=HSS.out V0 HB0.out;have HS0:=Lh hS0;refine tE 0 ⟨some 68,Op.load 25 (.tmp 9),25,_,_,_⟩ ?_ rfl ?zq0 (hS0) ?zq1;(case zq0=>intro wS hSw;(have hq0:=hSw.1);(have hq1:=hSw.2.1);(have hq2:=hSw.2.2);clear hSw;go_simp;(try with_reducible rfl));(all_goals try go_frame);refine tE 1 ⟨some 69,Op.move (.tmp 13),3,_,_,_⟩ ?_ rfl ?zq2 (hS0) ?zq3;(case zq2=>intro _ s;clear s;go_simp;(try with_reducible rfl));(all_goals try go_frame);refine tE 2 ⟨some 70,Op.move (.tmp 2),22,_,_,_⟩ ?_ rfl ?zq4 (hS0) ?zq5;(case zq4=>intro _ s;clear s;go_simp;(try with_reducible rfl));(all_goals try go_frame);refine QaW (i:=3) (j:=8) (oi:=⟨some 71,Op.call {callee:=Callee.value (Operand.func 34),args:=#[Operand.tmp 70],argTypes:=#[22]},36,_,_,_⟩) (oj:=⟨some 14,Op.alloc 25,0,_,_,_⟩) (by kernel_rfl) rfl rfl (by rfl) (by rfl) (fun K hK=>?_) (fun K hK=>?_)
  ·go_simp;go_at_call 34;refine(HTX.out V0 HB0.out).mono ?_;rintro e V1 ⟨⟨At,ct,Bt,dt,ta,tb,rfl,hg,h1,h2⟩,hb⟩;go_simp;have HGT:=Lh hg;have HB1:=Lh (HB0.out.trans (hb.mono HB0.out.size));have hS1:V1.cell? ⟨b1,0,none⟩=some (.int .i64 m)∧V1.cell? ⟨b1,1,none⟩=some (.int .i64 h)∧V1.cell? ⟨b1,2,none⟩=some (.slice (some ⟨bs,os,none⟩) n ck):=HSS.out V1 HB1.out;have HTA1:=Lh h1;have HTB1:=Lh h2;clear hg h1 h2 hb;refine hK _ _ (fun _=>?_) ?_
   ·exact hS1
   clear hK K;(try go_frame);refine QaW (i:=4) (j:=8) (oi:=⟨some 72,Op.call {callee:=Callee.value (Operand.func 49),args:=#[Operand.tmp 68,Operand.tmp 69,Operand.const (Value.int IntKind.i64 5000),Operand.tmp 71],argTypes:=#[25,3,3,36]},94,_,_,_⟩) (oj:=⟨some 14,Op.alloc 25,0,_,_,_⟩) (by kernel_rfl) rfl rfl (by rfl) (by rfl) (fun K hK=>?_) (fun K hK=>?_)
   ·go_simp;go_at_call 49;refine(HCO.out V1 At Bt ct dt ta tb HB1.out HGT.out HTA1.out HTB1.out).mono ?_;rintro e V2 ⟨⟨An,cn,rfl,h1⟩,hb⟩;go_simp;have HB2:=Lh (HB1.out.trans (hb.mono HB1.out.size));have hS2:V2.cell? ⟨b1,0,none⟩=some (.int .i64 m)∧V2.cell? ⟨b1,1,none⟩=some (.int .i64 h)∧V2.cell? ⟨b1,2,none⟩=some (.slice (some ⟨bs,os,none⟩) n ck):=HSS.out V2 HB2.out;have HR1:=Lh (h1.mono (S':=fun i=>i<V2.heap.size) fun i _ hl=>hl);clear h1 hb;refine hK _ _ (fun _=>?_) ?_
    ·exact hS2
    clear hK K;(try go_frame);refine tE 5 ⟨some 67,Op.move (.tmp 72),94,_,_,_⟩ ?_ rfl ?zq6 (hS2) ?zq7;(case zq6=>intro _ s;clear s;go_simp;(try with_reducible rfl));(all_goals try go_frame);refine tF 6 ⟨some 73,Op.extract (.tmp 67) 0,25,_,_,_⟩ ?_ rfl ?zq8 ?zq9;(case zq8=>intro wS;go_simp;(try with_reducible rfl));(all_goals try go_frame);refine tF 7 ⟨some 74,Op.extract (.tmp 67) 1,77,_,_,_⟩ ?_ rfl ?zq10 ?zq11;(case zq10=>intro wS;go_simp;(try with_reducible rfl));(all_goals try go_frame);refine tD 8 ⟨some 14,Op.alloc 25,0,_,_,_⟩ rfl fun K hK=>?_
    go_simp;obtain⟨V3,hV⟩:∃V3,(V2.alloc (.cells #[.int .i64 0,.int .i64 0,.slice none 0 0] 25))=V3:=⟨_,rfl⟩;have hb:Below V2.heap.size V2 V3:=(by rw[←hV];exact bR.alloc nL _);have hx:ABox V3 V2.heap.size 25 [.int .i64 0,.int .i64 0,.slice none 0 0]:=(by rw[←hV];exact heap_alloc_new V2 _);obtain⟨bn,hbn⟩:∃bn,V2.heap.size=bn:=⟨_,rfl⟩;have HBN:Hid (w8.heap.size≤bn):=Lh (by rw[←hbn];exact HB2.out.size);rw[hV,hbn];rw[hbn] at hx;have HN1:=Lh ((HR1.out.keep (Kept.all hb) hb.size).mono (S':=fun i=>i≠bn) fun i (hi:i<V2.heap.size) _=>by omega);have HB3:=Lh (HB2.out.trans (hb.mono HB2.out.size));have hS3:V3.cell? ⟨b1,0,none⟩=some (.int .i64 m)∧V3.cell? ⟨b1,1,none⟩=some (.int .i64 h)∧V3.cell? ⟨b1,2,none⟩=some (.slice (some ⟨bs,os,none⟩) n ck):=HSS.out V3 HB3.out;have HX3:=Lh hx;clear hx hb hV hbn;refine hK _ _ (fun _=>?_) ?_
    ·exact hS3
    clear hK K;(try go_frame);refine tD 9 ⟨none,Op.store 25 (.tmp 14) (.tmp 73),0,_,_,_⟩ rfl fun K hK=>?_
    have hy0:=HX3.out;have z0:=hy0.cell 0 rfl;have f0:=hy0.fz 0;have hy1:=hy0.set 0 (.int .i64 m);have z1:=hy1.cell 1 rfl;have f1:=hy1.fz 1;have hy2:=hy1.set 1 (.int .i64 h);have z2:=hy2.cell 2 rfl;have f2:=hy2.fz 2;have hy3:=hy2.set 2 (.slice An n cn);have HXF:=Lh hy3;clear hy0 hy1 hy2 hy3;go_simp;clear z0 z1 z2 f0 f1 f2;refine hK _ _ (fun h=>absurd h (by decide)) ?_;clear hK K;(try simp only[Act.put]);refine tD 10 ⟨some 15,Op.assign (.tmp 74),77,_,_,_⟩ rfl fun K hK=>?_
    go_simp;refine hK _ _ (fun h=>absurd h (by decide)) ?_;clear hK K;(try go_frame);refine Qae (by kernel_rfl) ?_ _;refine⟨rfl,At,ct,Bt,dt,ta,tb,An,cn,bn,rfl,HGT.out,HXF.out,?_,HBN.out,?_⟩
    ·exact(HN1.out.keep (fun i hi _=>(Qac _ _ _ _ hi).trans ((Qac _ _ _ _ hi).trans (Qac _ _ _ _ hi))) (by simp)).mono fun i _ hl=>hl
    ·exact((HB3.out.setCell (p:=⟨bn,0,none⟩) HBN.out _).setCell (p:=⟨bn,1,none⟩) HBN.out _).setCell (p:=⟨bn,2,none⟩) HBN.out _
   ·go_simp;obtain⟨V2,hV⟩:∃V2,(V1.alloc (.cells #[.int .i64 0,.int .i64 0,.slice none 0 0] 25))=V2:=⟨_,rfl⟩;have hb:Below V1.heap.size V1 V2:=(by rw[←hV];exact bR.alloc nL _);have hx:ABox V2 V1.heap.size 25 [.int .i64 0,.int .i64 0,.slice none 0 0]:=(by rw[←hV];exact heap_alloc_new V1 _);obtain⟨bn,hbn⟩:∃bn,V1.heap.size=bn:=⟨_,rfl⟩;have HBN:Hid (w8.heap.size≤bn):=Lh (by rw[←hbn];exact HB1.out.size);rw[hV,hbn];rw[hbn] at hx;have HB2:=Lh (HB1.out.trans (hb.mono HB1.out.size));have hS2:V2.cell? ⟨b1,0,none⟩=some (.int .i64 m)∧V2.cell? ⟨b1,1,none⟩=some (.int .i64 h)∧V2.cell? ⟨b1,2,none⟩=some (.slice (some ⟨bs,os,none⟩) n ck):=HSS.out V2 HB2.out;have HTA2:=Lh (HTA1.out.to hb);have HTB2:=Lh (HTB1.out.to hb);have HX2:=Lh hx;clear hx hb hV hbn;refine hK _ _ (fun _=>?_) ?_
    ·exact hS2
    clear hK K;(try go_frame);refine tD 4 ⟨some 72,Op.call {callee:=Callee.value (Operand.func 49),args:=#[Operand.tmp 68,Operand.tmp 69,Operand.const (Value.int IntKind.i64 5000),Operand.tmp 71],argTypes:=#[25,3,3,36]},94,_,_,_⟩ rfl fun K hK=>?_
    go_simp;go_at_call 49;refine(HCO.out V2 At Bt ct dt ta tb HB2.out HGT.out HTA2.out HTB2.out).mono ?_;rintro e V3 ⟨⟨An,cn,rfl,h1⟩,hb⟩;go_simp;have HB3:=Lh (HB2.out.trans (hb.mono HB2.out.size));have hS3:V3.cell? ⟨b1,0,none⟩=some (.int .i64 m)∧V3.cell? ⟨b1,1,none⟩=some (.int .i64 h)∧V3.cell? ⟨b1,2,none⟩=some (.slice (some ⟨bs,os,none⟩) n ck):=HSS.out V3 HB3.out;have HX3:=Lh (HX2.out.to hb);have HN1:=Lh (h1.mono (S':=fun i=>i≠bn) fun i (hi:V2.heap.size≤i) _=>by have:=HX2.out.lt;omega);clear h1 hb;refine hK _ _ (fun _=>?_) ?_
    ·exact hS3
    clear hK K;(try go_frame);refine tE 5 ⟨some 67,Op.move (.tmp 72),94,_,_,_⟩ ?_ rfl ?zq12 (hS3) ?zq13;(case zq12=>intro _ s;clear s;go_simp;(try with_reducible rfl));(all_goals try go_frame);refine tF 6 ⟨some 73,Op.extract (.tmp 67) 0,25,_,_,_⟩ ?_ rfl ?zq14 ?zq15;(case zq14=>intro wS;go_simp;(try with_reducible rfl));(all_goals try go_frame);refine tF 7 ⟨some 74,Op.extract (.tmp 67) 1,77,_,_,_⟩ ?_ rfl ?zq16 ?zq17;(case zq16=>intro wS;go_simp;(try with_reducible rfl));(all_goals try go_frame);refine tD 9 ⟨none,Op.store 25 (.tmp 14) (.tmp 73),0,_,_,_⟩ rfl fun K hK=>?_
    have hy0:=HX3.out;have z0:=hy0.cell 0 rfl;have f0:=hy0.fz 0;have hy1:=hy0.set 0 (.int .i64 m);have z1:=hy1.cell 1 rfl;have f1:=hy1.fz 1;have hy2:=hy1.set 1 (.int .i64 h);have z2:=hy2.cell 2 rfl;have f2:=hy2.fz 2;have hy3:=hy2.set 2 (.slice An n cn);have HXF:=Lh hy3;clear hy0 hy1 hy2 hy3;go_simp;clear z0 z1 z2 f0 f1 f2;refine hK _ _ (fun h=>absurd h (by decide)) ?_;clear hK K;(try simp only[Act.put]);refine tD 10 ⟨some 15,Op.assign (.tmp 74),77,_,_,_⟩ rfl fun K hK=>?_
    go_simp;refine hK _ _ (fun h=>absurd h (by decide)) ?_;clear hK K;(try go_frame);refine Qae (by kernel_rfl) ?_ _;refine⟨rfl,At,ct,Bt,dt,ta,tb,An,cn,bn,rfl,HGT.out,HXF.out,?_,HBN.out,?_⟩
    ·exact(HN1.out.keep (fun i hi _=>(Qac _ _ _ _ hi).trans ((Qac _ _ _ _ hi).trans (Qac _ _ _ _ hi))) (by simp)).mono fun i _ hl=>hl
    ·exact((HB3.out.setCell (p:=⟨bn,0,none⟩) HBN.out _).setCell (p:=⟨bn,1,none⟩) HBN.out _).setCell (p:=⟨bn,2,none⟩) HBN.out _
  ·go_simp;obtain⟨V1,hV⟩:∃V1,(V0.alloc (.cells #[.int .i64 0,.int .i64 0,.slice none 0 0] 25))=V1:=⟨_,rfl⟩;have hb:Below V0.heap.size V0 V1:=(by rw[←hV];exact bR.alloc nL _);have hx:ABox V1 V0.heap.size 25 [.int .i64 0,.int .i64 0,.slice none 0 0]:=(by rw[←hV];exact heap_alloc_new V0 _);obtain⟨bn,hbn⟩:∃bn,V0.heap.size=bn:=⟨_,rfl⟩;have HBN:Hid (w8.heap.size≤bn):=Lh (by rw[←hbn];exact HB0.out.size);rw[hV,hbn];rw[hbn] at hx;have HB1:=Lh (HB0.out.trans (hb.mono HB0.out.size));have hS1:V1.cell? ⟨b1,0,none⟩=some (.int .i64 m)∧V1.cell? ⟨b1,1,none⟩=some (.int .i64 h)∧V1.cell? ⟨b1,2,none⟩=some (.slice (some ⟨bs,os,none⟩) n ck):=HSS.out V1 HB1.out;have HX1:=Lh hx;clear hx hb hV hbn;refine hK _ _ (fun _=>?_) ?_
   ·exact hS1
   clear hK K;(try go_frame);refine tD 3 ⟨some 71,Op.call {callee:=Callee.value (Operand.func 34),args:=#[Operand.tmp 70],argTypes:=#[22]},36,_,_,_⟩ rfl fun K hK=>?_
   go_simp;go_at_call 34;refine(HTX.out V1 HB1.out).mono ?_;rintro e V2 ⟨⟨At,ct,Bt,dt,ta,tb,rfl,hg,h1,h2⟩,hb⟩;go_simp;have HGT:=Lh hg;have HB2:=Lh (HB1.out.trans (hb.mono HB1.out.size));have hS2:V2.cell? ⟨b1,0,none⟩=some (.int .i64 m)∧V2.cell? ⟨b1,1,none⟩=some (.int .i64 h)∧V2.cell? ⟨b1,2,none⟩=some (.slice (some ⟨bs,os,none⟩) n ck):=HSS.out V2 HB2.out;have HX2:=Lh (HX1.out.to hb);have HTA2:=Lh h1;have HTB2:=Lh h2;clear hg h1 h2 hb;refine hK _ _ (fun _=>?_) ?_
   ·exact hS2
   clear hK K;(try go_frame);refine tD 4 ⟨some 72,Op.call {callee:=Callee.value (Operand.func 49),args:=#[Operand.tmp 68,Operand.tmp 69,Operand.const (Value.int IntKind.i64 5000),Operand.tmp 71],argTypes:=#[25,3,3,36]},94,_,_,_⟩ rfl fun K hK=>?_
   go_simp;go_at_call 49;refine(HCO.out V2 At Bt ct dt ta tb HB2.out HGT.out HTA2.out HTB2.out).mono ?_;rintro e V3 ⟨⟨An,cn,rfl,h1⟩,hb⟩;go_simp;have HB3:=Lh (HB2.out.trans (hb.mono HB2.out.size));have hS3:V3.cell? ⟨b1,0,none⟩=some (.int .i64 m)∧V3.cell? ⟨b1,1,none⟩=some (.int .i64 h)∧V3.cell? ⟨b1,2,none⟩=some (.slice (some ⟨bs,os,none⟩) n ck):=HSS.out V3 HB3.out;have HX3:=Lh (HX2.out.to hb);have HN1:=Lh (h1.mono (S':=fun i=>i≠bn) fun i (hi:V2.heap.size≤i) _=>by have:=HX2.out.lt;omega);clear h1 hb;refine hK _ _ (fun _=>?_) ?_
   ·exact hS3
   clear hK K;(try go_frame);refine tE 5 ⟨some 67,Op.move (.tmp 72),94,_,_,_⟩ ?_ rfl ?zq18 (hS3) ?zq19;(case zq18=>intro _ s;clear s;go_simp;(try with_reducible rfl));(all_goals try go_frame);refine tF 6 ⟨some 73,Op.extract (.tmp 67) 0,25,_,_,_⟩ ?_ rfl ?zq20 ?zq21;(case zq20=>intro wS;go_simp;(try with_reducible rfl));(all_goals try go_frame);refine tF 7 ⟨some 74,Op.extract (.tmp 67) 1,77,_,_,_⟩ ?_ rfl ?zq22 ?zq23;(case zq22=>intro wS;go_simp;(try with_reducible rfl));(all_goals try go_frame);refine tD 9 ⟨none,Op.store 25 (.tmp 14) (.tmp 73),0,_,_,_⟩ rfl fun K hK=>?_
   have hy0:=HX3.out;have z0:=hy0.cell 0 rfl;have f0:=hy0.fz 0;have hy1:=hy0.set 0 (.int .i64 m);have z1:=hy1.cell 1 rfl;have f1:=hy1.fz 1;have hy2:=hy1.set 1 (.int .i64 h);have z2:=hy2.cell 2 rfl;have f2:=hy2.fz 2;have hy3:=hy2.set 2 (.slice An n cn);have HXF:=Lh hy3;clear hy0 hy1 hy2 hy3;go_simp;clear z0 z1 z2 f0 f1 f2;refine hK _ _ (fun h=>absurd h (by decide)) ?_;clear hK K;(try simp only[Act.put]);refine tD 10 ⟨some 15,Op.assign (.tmp 74),77,_,_,_⟩ rfl fun K hK=>?_
   go_simp;refine hK _ _ (fun h=>absurd h (by decide)) ?_;clear hK K;(try go_frame);refine Qae (by kernel_rfl) ?_ _;refine⟨rfl,At,ct,Bt,dt,ta,tb,An,cn,bn,rfl,HGT.out,HXF.out,?_,HBN.out,?_⟩
   ·exact(HN1.out.keep (fun i hi _=>(Qac _ _ _ _ hi).trans ((Qac _ _ _ _ hi).trans (Qac _ _ _ _ hi))) (by simp)).mono fun i _ hl=>hl
   ·exact((HB3.out.setCell (p:=⟨bn,0,none⟩) HBN.out _).setCell (p:=⟨bn,1,none⟩) HBN.out _).setCell (p:=⟨bn,2,none⟩) HBN.out _
 rintro _ w9 ⟨At,ct,Bt,dt,ta,tb,An,cn,bn,rfl,hg,hx,h1,-,hb⟩;have HGT:=Lh hg;have HX9:=Lh hx;have HS29:=Lh h1;have HB89:=Lh hb;clear hg hx h1 hb HTX HCO HSS;go_frame;obtain⟨L2,hL2⟩:∃q,ss.set k (QaO s 5000 ⟨ta,tb⟩)=q:=⟨_,rfl⟩;have hpk:GoodB m h L2∧Tame L2∧(QaY m h ss sl).Sublist (QaY m h L2 sl):=by
  obtain⟨hk,hs⟩:=HKS.out;refine cor_pack HG.out hk (by rw[hs];exact HSF.out) (t:=⟨ta,tb⟩) HGT.out ?_ sl;rw[hs];exact hL2
 have hl2n:L2.length=n:=by rw[←hL2,List.length_set];exact HNN.out
 rw[hL2] at HS29;clear hL2;have HG2:Hid (GoodB m h L2):=Lh hpk.1;have HTM2:Hid (Tame L2):=Lh hpk.2.1;have HSUB:=Lh hpk.2.2;have HN2L:=Lh hl2n;clear hpk hl2n HGT;have HB9:Hid (Below W2.heap.size W2 w9):=Lh (HB8.out.trans (HB89.out.mono HB8.out.size));have HB69:Hid (Below W6.heap.size W6 w9):=Lh (HB68.out.trans (HB89.out.mono HB68.out.size));have HBO2:Hid (BookOk w9 m h An cn L2):=Lh ((show SM w9 An cn L2 from⟨HT2.out.to HB9.out,HS29.out⟩).bookT HTM2.out HG.out.siz);obtain⟨T,hTT⟩:∃q,QaY m h L2 sl=q:=⟨_,rfl⟩;obtain⟨N2,hN2⟩:∃q,T.length=q:=⟨_,rfl⟩;have HNB:=Lh hN2;rw[HSD.out,hTT] at HSUB;have HN26:Hid (N2≤16384):=Lh (by have:=HG2.out.p;rw[←hN2,←hTT];unfold QaY;rw[qM];exact this);have HLB2:Hid ((T.map (·.label)).Nodup):=Lh (by rw[←hTT];exact HG2.out.labels sl);have HSZ2:Hid (∀s∈cerL T,(Qbm 3 s).length≤1073740000):=Lh (by rw[←hTT];exact QeI HG2.out HTM2.out sl);have HSH:=Lh (QeG n N2 As cs ns sl HBO2.out (HT2.out.to HB9.out) (fun s hs=>(HG2.out.s s hs).nt.symm) HG2.out.pv (by have:=HG2.out.p;omega) (HL6.out.to HB69.out) HNS.out HNZ.out HSG.out HN2L.out hTT hN2);clear hTT hN2;have q0:=HX9.out.cell 0 rfl;have q1:=HX9.out.cell 1 rfl;have q2:=HX9.out.cell 2 rfl
 go_upto_region 14 with(first|(go_at_call 16;refine HSH.out.mono ?_;rintro e W10 ⟨⟨A4,c4,rfl,hs⟩,hb⟩;have HS10:=Lh hs;have HB610:=Lh (HB69.out.trans (hb.mono HB69.out.size));clear hs hb q0 q1 q2)|fail)
 clear HSH;obtain⟨nl,hnl⟩:∃q,addAll 3 o (cerL T)=q:=⟨_,rfl⟩;have hpk:=led_pack 3 (S:=cerL S) (T:=cerL T) (HSUB.out.map cerS) (by rw[cer_labels];exact HLB2.out) HO1.out hnl;have hct:(cerL T).length=N2:=by rw[QbI];exact HNB.out
 obtain⟨-,-,e1,e2,e3,e4,e5⟩:=hpk;rw[hct] at e1 e2;rw[HCS.out] at e3;clear hct;have HE1:=Lh e1;have HE2:=Lh e2;have HE3:=Lh e3;have HE4:=Lh e4
 have HE5:Hid (∀i (hi:i<S.length),lastIx nl.2 S[i].label=(i:Int)):=Lh fun i hi=>by
  have h1:=e5 i (by rw[QbI];exact hi);have h2:(cerL S)[i]'(by rw[QbI];exact hi)=cerS S[i]:=List.getElem_map ..;rw[h2] at h1;exact h1
 have HAD:=Lh (cadd_any (p:=o) (HK2.out.to (HB6.out.trans (HB610.out.mono HB6.out.size))) (HA6.out.to HB610.out) (show @Sl ByteArray repStrZ W10 (fun b=>b<W10.heap.size) Ab cb o.2 from zto HC6.out HB610.out) HS10.out HOA.out HOB.out HNB.out (by have:=HN16.out;have:=HN26.out;omega) HSZ2.out hnl e1 e2);clear hnl e1 e2 e3 e4 e5;have x0:=(HCL.out W10 HB610.out).1;have x1:=(HCL.out W10 HB610.out).2
 go_upto_region 15 with(first|(go_at_call 47;refine HAD.out.mono ?_;rintro e V11 ⟨⟨Ac,cc,Ad,cd,rfl,ha,hb⟩,hbl⟩;have HA11:=Lh ha;have HC11:=Lh hb;have HV11:=Lh hbl;clear ha hb hbl x0 x1)|fail)
 clear HAD;obtain⟨W11,hW11⟩:∃q,V11.alloc (.cells #[.slice Ac N2 cc,.slice Ad N2 cd] 92)=q:=⟨_,rfl⟩;obtain⟨X11,hX11⟩:∃q,V11.heap.size=q:=⟨_,rfl⟩;have hb11:Below V11.heap.size V11 W11:=by rw[←hW11];exact bR.alloc nL _
 have HXM:Hid (ABox W11 X11 92 [.slice Ac N2 cc,.slice Ad N2 cd]):=Lh (by rw[←hW11,←hX11];exact heap_alloc_new V11 _);have h1011:Below W10.heap.size W10 W11:=HV11.out.trans (hb11.mono HV11.out.size);have HB611:Hid (Below W6.heap.size W6 W11):=Lh (HB610.out.trans (h1011.mono HB610.out.size));have HB211:Hid (Below W2.heap.size W2 W11):=Lh (HB6.out.trans (HB611.out.mono HB6.out.size));have HS11:=Lh (HS10.out.to h1011);have HA12:=Lh (HA11.out.to hb11);have HC12:Hid (@Sl ByteArray repStrZ W11 (fun b=>b<W11.heap.size) Ad cd nl.2):=Lh (zto HC11.out hb11);rw[hW11,hX11];clear hW11 hX11 hb11 h1011 HV11 HA11 HC11 HS10;have hN2c:N2≤cc:=by have:=HA12.out.1;rw[HE1.out] at this;exact this
 have hN12:N1≤N2:=by have:=HSUB.out.length_le;rw[HNA.out,HNB.out] at this;exact this
 have hn16:=HN26.out;have hccm:cc≤9223372036854775807:=HA12.out.2.1;refine Qap [15] (fun i=>if i=15 then SP.val (.bool true) else SP.any) 18 (by kernel_rfl) (by kernel_rfl) ?_;intro Tq _ g hg hgm;have HD6:Hid (∀d,Below W6.heap.size W6 (g d)):=Lh fun d=>HB611.out.trans ((hg d).mono HB611.out.size)
 have x0:∀d,(g d).cell? ⟨X6,0,none⟩=some (.slice Aa N1 ca):=fun d=>(HCL.out (g d) (HD6.out d)).1
 have y0:∀d,(g d).cell? ⟨X11,0,none⟩=some (.slice Ac N2 cc):=fun d=>(HXM.out.to (hg d)).cell 0 rfl
 have hnn:((N2:Int) != (N2:Int))=false:=by simp
 have hsl1:(0:Int)≤(N1:Int):=by omega
 have hsl2:(N1:Int)≤(N2:Int):=by omega
 have hsl3:(N1:Int)≤(cc:Int):=by omega
 (repeat(refine Qao (by rfl) fun Kq hq=>?_;go_big_quiet_step (fail);refine wpQuiet_nil (hq _ ?_);clear hq Kq));refine QaG (by rfl) (by rfl) (fun d hG K Q hK=>?_) (fun v d hG hp Kr hr=>?_)
 ·go_simp;go_at_call 50;refine(QeT Ac Aa cc ca N1 N1 (nl.1.take N1) o.1 (g d) ((HA12.out.to (hg d)).take N1 (by rw[HE1.out];exact hN12)) (HA6.out.to (HD6.out d)) (by rw[qK,HE1.out];omega) HOA.out).mono ?_;rintro e W9 ⟨rfl,hb1⟩;rw[decide_eq_true HE3.out];go_simp;exact hK _ _ hb1 rfl
 have hp:v=.bool true:=hp;subst hp;(try clear hp);clear hG;go_frame;refine hr _ ?_;clear hr Kr;(repeat(refine Qao (by rfl) fun Kq hq=>?_;go_big_quiet_step (fail);refine wpQuiet_nil (hq _ ?_);clear hq Kq));refine Qeq (by kernel_rfl) (fun d hG=>?_) _;have HB1112:Hid (Below W11.heap.size W11 (g d)):=Lh (hg d);clear x0 y0 hnn hsl1 hsl2 hsl3 HD6;have HBd:=Lh (hg d);clear hG hg hgm;unfold Exit.then;generalize g d=w12 at*;clear g;have HCM:Hid (∀W,Below W11.heap.size W11 W→W.cell? ⟨X11,0,none⟩=some (.slice Ac N2 cc)∧W.cell? ⟨X11,1,none⟩=some (.slice Ad N2 cd)):=Lh fun W hW=>⟨(HXM.out.to hW).cell 0 rfl,(HXM.out.to hW).cell 1 rfl⟩
 have HKW:Hid (∀W,Below W11.heap.size W11 W→KLaid W):=Lh fun W hW=>HK2.out.to (HB211.out.trans (hW.mono HB211.out.size))
 have HS66:=Lh (HS6.out.to HB611.out);have hN2d:N2≤c4:=by have:=HS11.out.1;rw[HNB.out] at this;exact this
 have hN1d:N1≤c3:=by have:=HS6.out.1;rw[HNA.out] at this;exact this
 have HRT:Hid ((root nl.1).length=32):=Lh (Qbp nl.1 (h32_len HA12.out))
 have HPR:Hid (∀s∈cerL T,proofB nl.2 s.label=true∧QcY (N2:Int) (root nl.1) 3 s (QbF nl.2 s.label) (Qbw nl.1 nl.2 s.label)=true):=Lh fun s hs=>by
  have h1:=has_check 3 nl.1 nl.2 s (HE4.out s hs) (by rw[HE1.out];omega);rw[HE1.out] at h1;exact h1
 go_wp2_with fail;go_loopw [18] (fun i wr=>∃k:Nat,k≤N2∧i=.int .i64 (k:Int)∧Hid (Below w12.heap.size w12 wr)) (fun i _=>N2-(intOf i).toNat);(case atStart=>exact⟨0,Nat.zero_le _,rfl,Lh bR⟩);case round=>
  obtain⟨k,hk,rfl,HBr⟩:=hrel;have HB11r:Hid (Below W11.heap.size W11 wr):=Lh (HB1112.out.trans (HBr.out.mono HB1112.out.size));by_cases hlt:k<N2
  ·have hkl:k<T.length:=by rw[HNB.out];exact hlt
   obtain⟨bp,op,A5,c5,A6,c6,hA,-,hbl,p0,p1,p2,hs1,hs2⟩:=sheetP_at HS11.out hkl;have hmem:T[k]∈T:=List.getElem_mem hkl;obtain⟨s,hs⟩:∃q,T[k]=q:=⟨_,rfl⟩;rw[hs] at p0 p1 p2 hs1 hs2 hmem;have hcm:cerS s∈cerL T:=List.mem_map_of_mem hmem;have hpr:=HPR.out _ hcm;have HZS:=Lh (HSZ2.out _ hcm);obtain⟨nb,hnb⟩:∃q,s.body.length=q:=⟨_,rfl⟩;obtain⟨nn,hnn⟩:∃q,s.notes.length=q:=⟨_,rfl⟩;rw[hnb] at p1;rw[hnn] at p2;have HNB5:=Lh hnb;have HNN5:=Lh hnn;obtain⟨ix,hix⟩:∃q,QbF nl.2 s.label=q:=⟨_,rfl⟩;obtain⟨PR,hPR⟩:∃q,Qbw nl.1 nl.2 s.label=q:=⟨_,rfl⟩;obtain⟨np,hnp⟩:∃q,PR.length=q:=⟨_,rfl⟩;have HPK:Hid (proofB nl.2 s.label=true∧QcY (N2:Int) (root nl.1) 3 (cerS s) ix PR=true∧QbF nl.2 s.label=ix∧Qbw nl.1 nl.2 s.label=PR∧PR.length=np):=Lh ⟨hpr.1,by have:=hpr.2;rw[show(cerS s).label=s.label from rfl,hix,hPR] at this;exact this,hix,hPR,hnp⟩;have HPC:Hid (∀W,Below W11.heap.size W11 W→W.cell? ⟨bp,op+k*3,none⟩=some (.string s.label)∧W.cell? ⟨bp,op+k*3+1,none⟩=some (.slice A5 nb c5)∧W.cell? ⟨bp,op+k*3+2,none⟩=some (.slice A6 nn c6)):=Lh fun W hW=>
    ⟨(hW.cell (p:=⟨bp,op+k*3,none⟩) hbl).trans p0,(hW.cell (p:=⟨bp,op+k*3+1,none⟩) hbl).trans p1,(hW.cell (p:=⟨bp,op+k*3+2,none⟩) hbl).trans p2⟩
   have HSB1:=Lh hs1;have HSB2:=Lh hs2;obtain⟨lab,hlab⟩:∃q,s.label=q:=⟨_,rfl⟩;have HLAB:=Lh hlab;rw[hlab] at HPC;have hkI:(k:Int)<(N2:Int):=(by omega);have hkc:(k:Int)<(c4:Int):=(by omega);have HKL:=Lh hlt;subst hA;clear hmem hcm hpr hs p0 p1 p2 hs1 hs2 hnb hnn hix hPR hnp hbl hlab;go_upto_region 20 with(fail);refine Qap [6] (fun i=>if i=6 then SP.prf ix np PR else SP.any) 14 (by kernel_rfl) (by kernel_rfl) ?_;intro Tq _ g hg hgm;have HD11:Hid (∀d,Below W11.heap.size W11 (g d)):=Lh fun d=>HB11r.out.trans ((hg d).mono HB11r.out.size)
   have y0:∀d,(g d).cell? ⟨X11,0,none⟩=some (.slice Ac N2 cc):=fun d=>(HCM.out (g d) (HD11.out d)).1
   have y1:∀d,(g d).cell? ⟨X11,1,none⟩=some (.slice Ad N2 cd):=fun d=>(HCM.out (g d) (HD11.out d)).2
   have p0:∀d,(g d).cell? ⟨bp,op+k*3,none⟩=some (.string lab):=fun d=>(HPC.out (g d) (HD11.out d)).1
   (repeat(refine Qao (by rfl) fun Kq hq=>?_;go_big_quiet_step (fail);refine wpQuiet_nil (hq _ ?_);clear hq Kq));refine QaG (by rfl) (by rfl) (fun d hG K Q hK=>?_) (fun v d hG hp Kr hr=>?_)
   ·go_simp;go_at_call 51;refine(cproof_any (p:=nl) (HKW.out (g d) (HD11.out d)) (HA12.out.to (HD11.out d)) (show @Sl ByteArray repStrZ (g d) (fun b=>b<(g d).heap.size) Ad cd nl.2 from zto HC12.out (HD11.out d)) HE1.out HE2.out (by omega) (x:=lab) (i:=ix) (P:=PR) (N:=np) (by rw[←HLAB.out];exact HPK.out.2.2.1) (by rw[←HLAB.out];exact HPK.out.1) (by rw[←HLAB.out];exact HPK.out.2.2.2.1) HPK.out.2.2.2.2).mono ?_;rintro e W9 ⟨⟨A8,c8,rfl,h1⟩,hb1⟩;go_simp;exact hK _ _ hb1 ⟨A8,c8,rfl,h1⟩
   obtain⟨A7,c7,rfl,-⟩:=(show ∃A c,v=.tuple #[.int .i64 ix,.slice A np c,.bool true]∧_ from hp);(try clear hp);clear hG;go_frame;refine hr _ ?_;clear hr Kr;(repeat(refine Qao (by rfl) fun Kq hq=>?_;go_big_quiet_step (fail);refine wpQuiet_nil (hq _ ?_);clear hq Kq));refine Qeq (by kernel_rfl) (fun d hG=>?_) _;have HBg:Hid (Below wr.heap.size wr (g d)):=Lh (hg d);obtain⟨A8,c8,e8,h8⟩:=(show ∃A c,Value.tuple #[.int .i64 ix,.slice A7 np c7,.bool true]=.tuple #[.int .i64 ix,.slice A np c,.bool true]∧Sl (g d) (fun b=>b<(g d).heap.size) A c PR from hG 6);cases e8;have HSP:=Lh h8;clear y0 y1 p0 HD11 h8;have HBd:=Lh (hg d);clear hG hg hgm;unfold Exit.then;generalize g d=w13 at*;clear g;have HB13:Hid (Below W11.heap.size W11 w13):=Lh (HB11r.out.trans (HBg.out.mono HB11r.out.size));go_upto_region 21 with(fail);refine Qap [4,11] (fun i=>if i=4 then SP.val (headV (N2:Int) (root nl.1)) else if i=11 then SP.val (.bool true) else SP.any) 14 (by kernel_rfl) (by kernel_rfl) ?_;intro Tq _ g hg hgm;have HD11:Hid (∀d,Below W11.heap.size W11 (g d)):=Lh fun d=>HB13.out.trans ((hg d).mono HB13.out.size)
   have y0:∀d,(g d).cell? ⟨X11,0,none⟩=some (.slice Ac N2 cc):=fun d=>(HCM.out (g d) (HD11.out d)).1
   have y1:∀d,(g d).cell? ⟨X11,1,none⟩=some (.slice Ad N2 cd):=fun d=>(HCM.out (g d) (HD11.out d)).2
   have p0:∀d,(g d).cell? ⟨bp,op+k*3,none⟩=some (.string lab):=fun d=>(HPC.out (g d) (HD11.out d)).1
   have p1:∀d,(g d).cell? ⟨bp,op+k*3+1,none⟩=some (.slice A5 nb c5):=fun d=>(HPC.out (g d) (HD11.out d)).2.1
   have p2:∀d,(g d).cell? ⟨bp,op+k*3+2,none⟩=some (.slice A6 nn c6):=fun d=>(HPC.out (g d) (HD11.out d)).2.2
   (repeat(refine Qao (by rfl) fun Kq hq=>?_;go_big_quiet_step (fail);refine wpQuiet_nil (hq _ ?_);clear hq Kq));refine QaG (by rfl) (by rfl) (fun d hG K Q hK=>?_) (fun v d hG hp Kr hr=>?_)
   ·go_simp;go_at_call 53;refine(top_any Ac Ad cc N2 nl.1 (g d) cd N2 (HA12.out.to (HD11.out d)) HE1.out (by omega) (HKW.out (g d) (HD11.out d))).mono ?_;rintro e W9 ⟨rfl,hb1⟩;go_simp;exact hK _ _ hb1 rfl
   have hp:v=headV (N2:Int) (root nl.1):=hp;subst hp;(try clear hp);clear hG;go_frame;refine hr _ ?_;clear hr Kr;(repeat(refine Qao (by rfl) fun Kq hq=>?_;go_big_quiet_step (fail);refine wpQuiet_nil (hq _ ?_);clear hq Kq));refine QaG (by rfl) (by rfl) (fun d hG K Q hK=>?_) (fun v d hG hp Kr hr=>?_)
   ·go_simp;go_at_call 52
    refine(show Calls Tryz.prog 52 #[headV (N2:Int) (root nl.1),.int .i64 3,.agg #[.string lab,.slice A5 nb c5,.slice A6 nn c6],.int .i64 ix,.slice A7 np c7] (g d) _ by
     have h9:=ccheck_any (HKW.out (g d) (HD11.out d)) HRT.out HNB5.out HNN5.out (HSB1.out.to (HD11.out d)) (HSB2.out.to (HD11.out d)) HZS.out (HSP.out.to (hg d)) HPK.out.2.2.2.2 HPK.out.2.1
     rw[HLAB.out] at h9
     exact h9).mono ?_
    rintro e W9 ⟨rfl,hb1⟩;go_simp;exact hK _ _ hb1 rfl
   have hp:v=.bool true:=hp;subst hp;(try clear hp);clear hG;go_frame;refine hr _ ?_;clear hr Kr;(repeat(refine Qao (by rfl) fun Kq hq=>?_;go_big_quiet_step (fail);refine wpQuiet_nil (hq _ ?_);clear hq Kq));refine Qeq (by kernel_rfl) (fun d hG=>?_) _;have HBn:Hid (Below w12.heap.size w12 (g d)):=Lh (HBr.out.trans ((HBg.out.trans ((hg d).mono HBg.out.size)).mono HBr.out.size));clear y0 y1 p0 p1 p2 HD11;have HBd:=Lh (hg d);clear hG hg hgm;unfold Exit.then;go_wp2_with fail;go_roundw;(case rel=>exact⟨k+1,by have:=HKL.out;omega,by go_num,HBn⟩);case measure=>(have:=HKL.out;first|(simp[intOf];done)|(simp[intOf];omega))
  ·obtain rfl:k=N2:=by omega
   have hkI:¬(k:Int)<(k:Int):=(by omega);obtain⟨w14,hw14⟩:∃q:World,q=wr:=⟨_,rfl⟩;subst hw14;go_wp2_with fail;go_loopw [22] (fun i wr=>∃j:Nat,j≤N1∧i=.int .i64 (j:Int)∧Hid (Below w14.heap.size w14 wr)) (fun i _=>N1-(intOf i).toNat);(case atStart=>exact⟨0,Nat.zero_le _,rfl,Lh bR⟩);case round=>
    obtain⟨j,hj,rfl,HBj⟩:=hrel;have HB11j:Hid (Below W11.heap.size W11 wr):=Lh (HB11r.out.trans (HBj.out.mono HB11r.out.size));by_cases hlt:j<N1
    ·have hjl:j<S.length:=by rw[HNA.out];exact hlt
     obtain⟨bp,op,A5,c5,A6,c6,hA,-,hbl,p0,-,-,-,-⟩:=sheetP_at HS66.out hjl;have hix:=HE5.out j hjl;have hmem:S[j]∈S:=List.getElem_mem hjl;obtain⟨s,hs⟩:∃q,S[j]=q:=⟨_,rfl⟩;rw[hs] at p0 hmem hix;have hcm:cerS s∈cerL T:=List.mem_map_of_mem (HSUB.out.subset hmem);have hpr:=HPR.out _ hcm;have hpi:QbF nl.2 s.label=(j:Int):=(by unfold QbF;rw[hix,if_neg (by omega)]);obtain⟨PR,hPR⟩:∃q,Qbw nl.1 nl.2 s.label=q:=⟨_,rfl⟩;obtain⟨np,hnp⟩:∃q,PR.length=q:=⟨_,rfl⟩;obtain⟨lab,hlab⟩:∃q,s.label=q:=⟨_,rfl⟩;have HPK:Hid (proofB nl.2 lab=true∧QbF nl.2 lab=(j:Int)∧Qbw nl.1 nl.2 lab=PR∧PR.length=np):=Lh (by rw[←hlab];exact⟨hpr.1,hpi,hPR,hnp⟩);rw[hlab] at p0;have HPC:Hid (∀W,Below W11.heap.size W11 W→W.cell? ⟨bp,op+j*3,none⟩=some (.string lab)):=Lh fun W hW=>(hW.cell (p:=⟨bp,op+j*3,none⟩) hbl).trans p0
     have hjI:(j:Int)<(N1:Int):=(by omega);have hjc:(j:Int)<(c3:Int):=(by omega);have HJL:=Lh hlt;subst hA;clear hmem hcm hpr hs p0 hPR hnp hbl hlab hix hpi;go_upto_region 26 with(fail);refine Qap [6] (fun i=>if i=6 then SP.prf (j:Int) np PR else SP.any) 14 (by kernel_rfl) (by kernel_rfl) ?_;intro Tq _ g hg hgm;have HD11:Hid (∀d,Below W11.heap.size W11 (g d)):=Lh fun d=>HB11j.out.trans ((hg d).mono HB11j.out.size)
     have y0:∀d,(g d).cell? ⟨X11,0,none⟩=some (.slice Ac k cc):=fun d=>(HCM.out (g d) (HD11.out d)).1
     have y1:∀d,(g d).cell? ⟨X11,1,none⟩=some (.slice Ad k cd):=fun d=>(HCM.out (g d) (HD11.out d)).2
     have p0:∀d,(g d).cell? ⟨bp,op+j*3,none⟩=some (.string lab):=fun d=>HPC.out (g d) (HD11.out d)
     (repeat(refine Qao (by rfl) fun Kq hq=>?_;go_big_quiet_step (fail);refine wpQuiet_nil (hq _ ?_);clear hq Kq));refine QaG (by rfl) (by rfl) (fun d hG K Q hK=>?_) (fun v d hG hp Kr hr=>?_)
     ·go_simp;go_at_call 51;refine(cproof_any (p:=nl) (HKW.out (g d) (HD11.out d)) (HA12.out.to (HD11.out d)) (show @Sl ByteArray repStrZ (g d) (fun b=>b<(g d).heap.size) Ad cd nl.2 from zto HC12.out (HD11.out d)) HE1.out HE2.out (by omega) (x:=lab) (i:=(j:Int)) (P:=PR) (N:=np) HPK.out.2.1 HPK.out.1 HPK.out.2.2.1 HPK.out.2.2.2).mono ?_;rintro e W9 ⟨⟨A8,c8,rfl,h1⟩,hb1⟩;go_simp;exact hK _ _ hb1 ⟨A8,c8,rfl,h1⟩
     obtain⟨A7,c7,rfl,-⟩:=(show ∃A c,v=.tuple #[.int .i64 (j:Int),.slice A np c,.bool true]∧_ from hp);(try clear hp);clear hG;go_frame;refine hr _ ?_;clear hr Kr;(repeat(refine Qao (by rfl) fun Kq hq=>?_;go_big_quiet_step (fail);refine wpQuiet_nil (hq _ ?_);clear hq Kq));refine Qeq (by kernel_rfl) (fun d hG=>?_) _;have HBn:Hid (Below w14.heap.size w14 (g d)):=Lh (HBj.out.trans ((hg d).mono HBj.out.size));clear y0 y1 p0 HD11;have HBd:=Lh (hg d);clear hG hg hgm;unfold Exit.then;have hjj:((j:Int) != (j:Int))=false:=(by simp);go_wp2_with fail;go_roundw;(case rel=>exact⟨j+1,by have:=HJL.out;omega,by go_num,HBn⟩);case measure=>(have:=HJL.out;first|(simp[intOf];done)|(simp[intOf];omega))
    ·obtain rfl:j=N1:=by omega
     have hjI:¬(j:Int)<(j:Int):=(by omega);have HBF:Hid (Below W1.heap.size W1 wr):=Lh (HB.out.trans ((HB211.out.trans (HB11j.out.mono HB211.out.size)).mono HB.out.size));have HL:=Lh (lives_any wr (HKW.out wr HB11j.out))
     go_wp2_with (first|(go_at_call 48;refine HL.out.mono ?_;rintro e w2 ⟨rfl,hb2⟩;have HBE:Hid (Below W1.heap.size W1 w2):=Lh (HBF.out.trans (hb2.mono HBF.out.size));clear hb2)|fail)
     go_ret;exact⟨rfl,HBE.out⟩
end Go.Proofs.YtegaapiocihcpaaGreatDoor
namespace Go.Proofs.YtegaapiocihcpaaGreatDoor
open Go.ChangeShapes Go.WideShapes Go.ChangeAt Go.RowKit Go.Deep
variable {H:Type} {enc:TypeId × Value→H} {P:Program}
end Go.Proofs.YtegaapiocihcpaaGreatDoor
namespace Go.Proofs.YtegaapiocihcpaaGreatDoor
open Go.ChangeShapes Go.WideShapes Go.ChangeAt Go.RowKit Go.Deep
variable {H:Type} {enc:TypeId × Value→H} {P:Program}
theorem Qcr {t e:TypeId}{W:World}{base:Nat}{v:Value}{d:DataW H}{ps:List MemPlace}(ht:P.underlying t=some (.slice e))(he:P.underlying e=some (.int .i64))(hc:P.cellsOf e=1) (hval:Value.okWide P W .any base t v) (h:DataW.Trod enc P W 0 (fun _=>true) true t v d ps):∃A c,∃l:List Int,v=.slice A l.length c∧Sl W (fun b=>b<W.heap.size) A c l:=by
 obtain⟨a,len,cap,rfl⟩:=okWide_slice ht hval;obtain⟨fuel,hf⟩:=h;rcases open_ints ht he hc hf with⟨hcs,_⟩|⟨a',len',cap',zs,hcs,_,hl,hm,hz,_,hcell,hwf⟩
 ·simp[Value.cells] at hcs;obtain⟨rfl,rfl,rfl⟩:=hcs;exact⟨none,0,[],rfl,Sl.nil _ _ _ _ (by simp[maxLen])⟩
 ·simp[Value.cells] at hcs;obtain⟨rfl,rfl,rfl⟩:=hcs;have hz':zs.length=cap:=(by simpa using hz);have hlt:(zs.take len).length=len:=(by rw[qK];omega);refine⟨some a',cap,zs.take len,by rw[hlt],by rw[hlt];exact hl,hm,fun h0=>?_⟩;obtain⟨b,o,rfl,hat⟩:=Go.ints_at hcell (by omega);refine⟨b,o,rfl,World.block_lt_of_cell? W _ (hat 0 (by omega)),World.block_lt_of_cell? W _ (hat 0 (by omega)),fun i hi=>?_⟩;rw[hlt] at hi
  have e:zs.getD i 0=(zs.take len)[i]'(by omega):=by
   rw[List.getElem_take,List.getD_eq_getElem?_getD,qG (by omega)];rfl
  refine⟨[.int .i64 (zs.getD i 0)],⟨by rw[e],?_⟩,fun j u hu=>?_⟩
  ·exact i64_wf (hwf _ (List.mem_of_mem_take (List.getElem_mem (by omega))))
  ·have hj:j=0:=by
    rcases j with _|j
    ·rfl
    ·simp at hu
   subst hj;simp only[List.getElem?_cons_zero,Option.some.injEq] at hu;subst hu;have:=hat i (by omega);show W.cell? ⟨b,o+i*1+0,none⟩=_;rw[Nat.mul_one,Nat.add_zero];exact this
end Go.Proofs.YtegaapiocihcpaaGreatDoor
namespace Go.Proofs.YtegaapiocihcpaaGreatDoor.rowCertifyBooks
open Go.ChangeShapes Go.WideShapes Go.ChangeAt Go.RowKit
set_option maxRecDepth 100000 in
theorem contract (H:Type)(enc:TypeId × Value→H)(W:World)(base:Nat)(args:Array Value)(ds gs:List (DataW H))(before:List MemPlace) (hval:∀(j:Nat) t v,Tryz.f12.params[j]? =some t→args[j]? =some v→Value.okWide Tryz.prog W .any base t v) (hW:DataW.Whole enc Tryz.prog Tryz.f12.params.toList Rows.certifyBooksSpec.vars false W args.toList ds gs before) (hL:laidMetH Tryz.prog laidL5 W):
 Calls Tryz.prog 12 args W fun e W'=>∃v,e=.returned v∧Rows.certifyBooksSpec.post enc Tryz.prog Tryz.f12 false true false false W args v W':=by
 have hW':=hW;obtain⟨p,q,hA0,hV,rfl,hfz,hnd⟩:=hW;have hA:DataW.TrodAll enc Tryz.prog W 0 (fun _=>true) true Tryz.f12.params.toList args.toList ds p:=hA0;rw[Tryz.params12] at hA hval;obtain⟨v0,vs0,d0,ds0,p0,q0,hargs,rfl,rfl,h0,r0⟩:=trodAll_cons hA;obtain⟨v1,vs1,d1,ds1,p1,q1,rfl,rfl,rfl,h1,r1⟩:=trodAll_cons r0;obtain⟨v2,vs2,d2,ds2,p2,q2,rfl,rfl,rfl,h2,r2⟩:=trodAll_cons r1;obtain⟨v3,vs3,d3,ds3,p3,q3,rfl,rfl,rfl,h3,r3⟩:=trodAll_cons r2;obtain⟨rfl,rfl,rfl⟩:=trodAll_nil r3;obtain rfl:args=#[v0,v1,v2,v3]:=by cases args;simp_all
 obtain⟨rfl,rfl⟩:=trodVars_none hV;obtain⟨A0,c0,l0,rfl,hl0⟩:=Qcr Tryz.underlying22 Tryz.underlying3 Qen (hval 0 22 v0 rfl rfl) h0;obtain⟨A1,c1,l1,rfl,hl1⟩:=Qcr Tryz.underlying22 Tryz.underlying3 Qen (hval 1 22 v1 rfl rfl) h1;obtain⟨A2,c2,l2,rfl,hl2⟩:=Qcr Tryz.underlying22 Tryz.underlying3 Qen (hval 2 22 v2 rfl rfl) h2;obtain⟨n3,rfl,rfl,rfl,wn3⟩:=open_int Tryz.underlying3 (hval 3 3 v3 rfl rfl) h3;refine(Qd0 A0 c0 l0 A1 c1 l1 A2 c2 l2 n3 W hl0 hl1 hl2 (i64_wf wn3) (tabs_of5 hL).1 (tabs_of5 hL).2).mono fun e W' ⟨he,hb⟩=>?_
 subst he;exact⟨_,rfl,row_close laidOut Tryz.underlying4 (by kernel_rfl) (by kernel_rfl) rfl hW' rfl hb⟩
theorem laid_met (os:Os):laidMet Tryz.prog Rows.certifyBooksRow.laid ((laidWorld5 os).forCall (fun _ _=>0) ⟨#[],#[.slice none 0 0,.slice none 0 0,.slice none 0 0,.int .i64 0],[]⟩).memory:=
 laidMet_of_run' 8 (by kernel_rfl) (by kernel_rfl)
theorem reads (os:Os){H:Type}(enc:TypeId × Value→H):∃places,DataW.whole enc Tryz.prog ((laidWorld5 os).forCall (fun _ _=>0) ⟨#[],#[.slice none 0 0,.slice none 0 0,.slice none 0 0,.int .i64 0],[]⟩).memory Tryz.f12.params.toList Rows.certifyBooksSpec.vars false (#[.slice none 0 0,.slice none 0 0,.slice none 0 0,.int .i64 0]:Array Value).toList 8=some ([.nil,.nil,.nil,.lit (.int .i64 0)],[],places):=
 ⟨[],by kernel_rfl⟩
set_option maxRecDepth 100000 in
theorem lifted (os:Os)(started:os.Started)(H:Type)(enc:TypeId × Value→H)(F:Stop.Interp):
 ReturnsInHanded {} Tryz.checked os 12 .any ((OpenSpec.ofChange Rows.certifyBooksSpec).preRow enc Tryz.prog Tryz.f12 Rows.certifyBooksRow.domain false Rows.certifyBooksRow.laid) (((OpenSpec.ofChange Rows.certifyBooksSpec).at F).post enc Tryz.prog Tryz.f12 false true false false):=by
 obtain⟨places,hx⟩:=reads os enc
 refine returnsInHanded_of_row (C:=Tryz.checked) (s:=(OpenSpec.ofChange Rows.certifyBooksSpec)) own started (by kernel_rfl) Tryz.func12
  (witness_row_at (enc:=enc) (C:=Tryz.checked) false (laidWorld5 os) #[.slice none 0 0,.slice none 0 0,.slice none 0 0,.int .i64 0] rfl (by kernel_rfl) (by kernel_rfl) (by kernel_rfl) (OpenSpec.preRow_of_cond 8 hx (by kernel_rfl) (fun k hk=>by cases hk) (by kernel_rfl) (laid_met os))) ?_
 intro W base args ds gs before hval hW _ _ _ hL _ _;exact contract H enc W base args ds gs before hval hW hL
theorem said:Rows.CertifyBooksSaid:=
 OpenClaim.holds_of_cond 12 Tryz.f12 rfl rfl rfl rfl rfl rfl rfl ⟨rfl,rfl,rfl,rfl,rfl⟩ rfl rfl rfl rfl rfl (by kernel_rfl) Tryz.func12 (by kernel_rfl) (of_decide_eq_true (by kernel_rfl)) (by unfold Func.isWrapper;first|(rw[if_pos (by decide +kernel)];kernel_rfl)|(rw[if_neg (by decide +kernel)];exact⟨rfl,rfl⟩)) (fun os started H enc _ F=>by rw[OpenClaim.pre_eq_preRow];exact lifted os started H enc F)
theorem wants:Tryz.f12.params.all (fun t=> !Tryz.prog.wantsStandIn t)=true:=by kernel_rfl
theorem plain (f:FuncId)(fn:Func)(hf:Tryz.pinned.checked.prog.funcNamed "rollbook/rollbooklaw34.CertifyBooks" =some f)(hfn:Tryz.pinned.checked.prog.funcs[f]? =some fn):
 false=Tryz.pinned.checked.prog.looks []∧∀(j:Nat) t,fn.params[j]? =some t→Tryz.pinned.checked.prog.wantsStandIn t=false:=by
 obtain rfl:f=12:=Option.some.inj ((show Tryz.prog.funcNamed "rollbook/rollbooklaw34.CertifyBooks" =some 12 by kernel_rfl).symm.trans hf) |>.symm;obtain rfl:fn=Tryz.f12:=(Option.some.inj (Tryz.func12.symm.trans hfn)).symm;refine⟨by kernel_rfl,fun j t ht=>?_⟩;have:=Array.all_eq_true_iff_forall_mem.1 wants t (Array.mem_of_getElem? ht);exact(by simpa using this:Tryz.prog.wantsStandIn t=false)
theorem card:Rows.CertifyBooksCardSaid:=
 Claim7.holds_tied_plain_at .later [] _ _ _ _ said (fun _ h=>by cases h) (by kernel_rfl) (fun _ h=>by cases h) certifyBooks_row_tie rfl ⟨rfl,rfl⟩ (by kernel_rfl) rfl plain (by kernel_rfl)
#print axioms card
end Go.Proofs.YtegaapiocihcpaaGreatDoor.rowCertifyBooks
