/- Texts of SpC. -/
import Derived.Test.YtegaapiocihcpaaDoorSDa6
import Derived.Deep.RegionLaw
import Derived.Deep.RegionHeld3
set_option maxHeartbeats 16000000
namespace Go.Proofs.YtegaapiocihcpaaDoor
open Go.RowKit
theorem QaX (A:Option Addr)(c:Nat)(l:List Int)(i:Int)(m:Int)(w:World)(hl:Sl w (fun b=>b<w.heap.size) A c l)(hm:1≤m)(hm2:m≤1000000)(hi0:0≤i):
 Calls Tryd.prog 14 #[.slice A l.length c,.int .i64 i,.int .i64 m] w fun e w'=>∃r:Nat,e=.returned (.int .i64 (r:Int))∧(r:Int)<m∧w=w':=by
 obtain⟨i,rfl⟩:=Int.eq_ofNat_of_zero_le hi0;clear hi0;have hlen:l.length≤9223372036854775807:=by have:=hl.1;have:=hl.2.1;unfold maxLen at this;omega
 have h0:¬(i:Int)<0:=by omega
 by_cases hi:i<l.length
 ·obtain⟨b,o,rfl,_,hbl,hx,hc⟩:=QbK hl hi;obtain⟨a0,a1⟩:=aro_lt l[i] m hm;generalize l[i]=x at*;have Hx:=Lh hx;have hi1:¬(l.length:Int)≤(i:Int):=(by omega);have hi2:(i:Int)<(l.length:Int):=(by omega);have hi0:0≤(i:Int):=(by omega);clear hx hl hi;go_enter Tryd.func14,Tryd.ntmps14;go_wp2_with fail;refine(around_any x m _ Hx.out hm (by omega)).mono ?_;rintro e w' ⟨rfl,rfl⟩;generalize aro x m=r at*;go_wp2_with fail;go_ret;exact⟨r.toNat,Qae (by omega),by omega,rfl⟩
 ·have hi1:(l.length:Int)≤(i:Int):=by omega
  clear hl hi;go_enter Tryd.func14,Tryd.ntmps14;go_wp2_with fail;go_ret;exact⟨0,rfl,by omega,rfl⟩
def QcF (l:List Word):Prop:=∀x∈l,x.n=0
theorem last_any (A:Option Addr)(c:Nat)(l:List (List Word))(n:Nat)(w:World)(hl:Sl w (fun b=>b<w.heap.size) A c l)(hn:n≤1000000):
 Calls Tryd.prog 48 #[.slice A l.length c,.int .i64 (n:Int)] w fun e w'=>∃b:Bool,e=.returned (.bool b)∧(b=false→∀p∈l.drop (n+1),QcF p)∧w=w':=by
 have hlen:l.length≤9223372036854775807:=by have:=hl.1;have:=hl.2.1;unfold maxLen at this;omega
 have h1:(n:Int)≤1000000:=by omega
 have h0:0≤(n:Int):=by omega
 have Hl:=Lh hl;clear hl;go_enter Tryd.func48,Tryd.ntmps48;go_wp2_with fail;go_loopw [5,6] (fun i _ wr=>∃k:Nat,n+1≤k∧(k≤l.length∨k=n+1)∧i=.int .i64 k∧Hid (∀j (hj:j<l.length),n+1≤j→j<k→QcF l[j])∧wr=w) (fun i _ _=>l.length-(intOf i).toNat);(case atStart=>exact⟨n+1,Nat.le_refl _,.inr rfl,by go_num,(fun j hj h1 h2=>absurd h1 (by omega)),rfl⟩);case round=>
  obtain⟨k,hk,hk2,rfl,hno,rfl⟩:=hrel;by_cases hlt:k<l.length
  ·obtain⟨b,o,Ap,cp,rfl,_,hbl,hc,hp⟩:=Qbw Hl.out hlt;have hkl:(k:Int)<(l.length:Int):=(by omega);have hk0:(0:Int)≤(k:Int):=(by omega);have HT:=Lh (fun(h:QcF l[k]) j (hj:j<l.length) (h1:n+1≤j) (h2:j<k+1)=>(by by_cases e:j=k;subst e;exact h;exact hno.out j hj h1 (by omega):QcF l[j]));have h2:l[k].length≤9223372036854775807:=(by have:=hp.1;have:=hp.2.1;unfold maxLen at this;omega);generalize l[k]=p at*;have Hp:=Lh hp;have hk3:(k:Int)≤9223372036854775806:=(by omega);clear hp hk2 hno;go_wp2_with fail;obtain⟨wo,rfl⟩:∃wo:World,wo=wr:=⟨_,rfl⟩;go_loopw [6] (fun i wr=>∃j:Nat,j≤p.length∧i=.int .i64 j∧Hid (∀i (hi:i<p.length),i<j→p[i].n=0)∧wr=wo) (fun i _=>p.length-(intOf i).toNat);(case atStart=>exact⟨0,Nat.zero_le _,rfl,(fun i hi h=>absurd h (by omega)),rfl⟩);case round=>
    obtain⟨j,hj,rfl,hno2,rfl⟩:=hrel;by_cases hjl:j<p.length
    ·obtain⟨b3,o3,rfl,_,hbl3,hok,d0,d1,d2,d3⟩:=Qdw Hp.out hjl;have hj1:(j:Int)<(p.length:Int):=(by omega);have hj0:(0:Int)≤(j:Int):=(by omega);have HT2:=Lh (fun(h:p[j].n=0) i (hi:i<p.length) (h2:i<j+1)=>(by by_cases e:i=j;subst e;exact h;exact hno2.out i hi (by omega):p[i].n=0));have hr:=hok.2.2.2;generalize p[j]=x at*;clear hok d0 d1 d2;by_cases hx:x.n=0
     ·have E:=Lh (HT2.out hx);rw[hx] at d3;clear hx HT2 hno2;go_wp2_with fail;go_roundw;(case rel=>exact⟨j+1,by omega,by go_num,E.out,by first|trivial|rfl⟩);case measure=>simp[intOf];omega
     ·have hB:(x.n==0)=false:=beq_eq_false_iff_ne.2 hx;clear hx HT2 hno2;go_wp2_with fail;go_ret;exact⟨true,rfl,fun h=>(by cases h),rfl⟩
    ·have E:=Lh (HT.out (fun x hx=>by obtain⟨i,hi,rfl⟩:=List.getElem_of_mem hx;exact hno2.out i hi (by omega)));clear HT hno2;go_wp2_with fail;go_roundw;(case rel=>exact⟨k+1,by omega,by omega,by go_num,E.out,by first|trivial|rfl⟩);case measure=>simp[intOf];omega
  ·have E:=Lh (fun p (hp:p∈l.drop (n+1))=>(by
    obtain⟨i,hi,rfl⟩:=List.getElem_of_mem hp
    rw[List.length_drop] at hi
    rw[List.getElem_drop]
    exact hno.out (n+1+i) (by omega) (by omega) (by omega):QcF p))
   clear hno;go_wp2_with fail;go_ret;exact⟨false,rfl,fun _=>E.out,rfl⟩
def QaJ (x:Word)(m:Int):Word:=⟨x.s,x.key,x.t,m⟩
def QcX (p:List Word)(m:Int)(b:Bool)(q:List Word):Prop:=
 (b=false∧q=p)∨(b=true∧∃i,∃h:i<p.length,(∀j (hj:j<p.length),i≤j→p[j].n=0)∧q=p.set i (QaJ p[i] m))
def RefP (g cap:Nat)(l:List Word)(m:Int)(later:Bool)(w:World)(e:Ending)(w':World):Prop:=
 ∃b:Bool,e=.returned (.bool b)∧∃q,QcX l m b q∧(b=true→later=false)∧q.length=l.length∧Own w' 0 117 (.slice (some ⟨g,0,none⟩) l.length cap) q∧w.grownBy w' (some g)
theorem refer_any (g cap:Nat)(l:List Word)(n:Nat)(m:Int)(later:Bool)(w:World)(hown:Own w 0 117 (.slice (some ⟨g,0,none⟩) l.length cap) l)(hn:n≤1000000)(hm0:0≤m)(hm:m≤1000)(hlen:l.length≤1000):
 Calls Tryd.prog 47 #[.slice (some ⟨g,0,none⟩) l.length cap,.int .i64 (n:Int),.int .i64 m,.bool later] w (RefP g cap l m later w):=by
 have h1:(n:Int)≤1000000:=by omega
 have h0:0≤(n:Int):=by omega
 have h2:(l.length:Int)≤1000:=by omega
 obtain⟨A,c,e1,hs⟩:=hown.sl;obtain⟨rfl,_,rfl⟩:=Value.slice.inj e1;have Hs:=Lh hs;have HO:=Lh hown;clear e1 hs hown;go_enter Tryd.func47,Tryd.ntmps47;go_wp2_with fail;go_loopw [9,10] (fun f i wr=>∃k:Nat,k≤l.length∧i=.int .i64 k∧(∃q:Nat,f=.int .i64 (q:Int)∧q≤k∧Hid (∀j (hj:j<l.length),q≤j→j<k→l[j].n=0))∧wr=w) (fun _ i _=>l.length-(intOf i).toNat);(case atStart=>exact⟨0,Nat.zero_le _,rfl,⟨0,rfl,Nat.le_refl _,(fun j hj h1 h2=>absurd h2 (by omega))⟩,rfl⟩);case round=>
  obtain⟨k,hk,rfl,⟨q,rfl,hqk,hno⟩,rfl⟩:=hrel;by_cases hlt:k<l.length
  ·obtain⟨b3,o3,e3,_,hbl3,hok,d0,d1,d2,d3⟩:=Qdw Hs.out hlt;obtain⟨rfl,rfl⟩:b3=g∧o3=0:=by simpa using e3.symm
   simp only[Nat.zero_add] at d3;have hkl:(k:Int)<(l.length:Int):=(by omega);have hk0:(0:Int)≤(k:Int):=(by omega);have HT:=Lh (fun(h:l[k].n=0) j (hj:j<l.length) (h1:q≤j) (h2:j<k+1)=>(by by_cases e:j=k;subst e;exact h;exact hno.out j hj h1 (by omega):l[j].n=0));have hr:=hok.2.2.2;generalize l[k]=x at*;clear hok d0 d1 d2 e3;by_cases hx:x.n=0
   ·have E:=Lh (HT.out hx);rw[hx] at d3;clear hx HT hno;go_wp2_with fail;go_roundw;(case rel=>exact⟨k+1,by omega,by go_num,⟨q,rfl,by omega,E.out⟩,by first|trivial|rfl⟩);case measure=>simp[intOf];omega
   ·have hB:(x.n==0)=false:=beq_eq_false_iff_ne.2 hx;clear hx HT hno;go_wp2_with fail;go_roundw;(case rel=>exact⟨k+1,by omega,by go_num,⟨k+1,by go_num,by omega,(fun j hj h1 h2=>absurd h2 (by omega))⟩,by first|trivial|rfl⟩);case measure=>simp[intOf];omega
  ·obtain rfl:k=l.length:=by omega
   have hno2:=Lh (fun j (hj:j<l.length) (h1:q≤j)=>hno.out j hj h1 hj);clear hno;cases later with
   |true=>
    go_wp2_with fail;go_ret;exact⟨false,rfl,l,.inl ⟨rfl,rfl⟩,fun h=>(by cases h),rfl,HO.out,World.grownBy.refl _ _⟩
   |false=>
    by_cases hq:q<l.length
    ·have hq1:(q:Int)<(l.length:Int):=by omega
     have hq0:(0:Int)≤(q:Int):=(by omega);have hmod:n%(l.length-q)<l.length-q:=Nat.mod_lt _ (by omega);have hmi:(n:Int)%((l.length:Int)-(q:Int))=((n%(l.length-q):Nat):Int):=by
      rw[Int.natCast_emod];congr 1;omega
     generalize n%(l.length-q)=r at*;obtain⟨g',cap',es,e4,_,hg,_,hr4,hcell,hfz⟩:=HO.out.at_ (show q+r<l.length by omega);obtain⟨re,hok⟩:=hr4;subst re;have c3:=hcell 3 _ rfl;rw[show Rep.size Word=4 from rfl] at c3;obtain⟨rfl,_⟩:g'=g∧cap'=cap:=by
      have:=Value.slice.inj e4;simp at this;exact⟨this.1.symm,this.2.symm⟩
     have HH:=Lh (HO.out.setf (q+r) 3 (show q+r<l.length by omega) (by decide) (.int .i64 m) rfl (QaJ l[q+r] m) (fun S es h=>by
      obtain⟨h1,h2⟩:=h
      subst h1
      exact⟨rfl,h2.1,h2.2.1,h2.2.2.1,⟨by show -9223372036854775808≤m;omega,by show m≤9223372036854775807;omega⟩⟩) (o:=(q+r)*4+3) rfl)
     have HR:Hid (QcX l m true (l.set (q+r) (QaJ l[q+r] m))):=.inr ⟨rfl,q+r,by omega,fun j hj h=>hno2.out j hj (by omega),rfl⟩;have hk1:(q:Int)+(r:Int)<(l.length:Int):=(by omega);have hk0:0≤(q:Int)+(r:Int):=(by omega);generalize l[q+r].n=old at*;have HL:Hid ((l.set (q+r) (QaJ l[q+r] m)).length=l.length):=Lh (by simp);generalize l.set (q+r) _=l' at*;clear hok hcell e4;go_wp2_with fail;go_ret;exact⟨true,rfl,_,HR.out,fun _=>rfl,HL.out,HH.out.1,HH.out.2⟩
    ·have hq1:¬(q:Int)<(l.length:Int):=by omega
     go_wp2_with fail;go_ret;exact⟨false,rfl,l,.inl ⟨rfl,rfl⟩,fun h=>(by cases h),rfl,HO.out,World.grownBy.refl _ _⟩
theorem raw_info:(Tryd.prog.info? 41).map (fun i=>(i.zero,i.size,i.bytes))=some (some (.slice none 0 0),Rep.size Raw,24):=by kernel_rfl
def Fresh (m:Nat)(p:List Word):Prop:=1≤p.length∧p.length≤m∧∀x∈p,Good x∧x.n=0
theorem Own.fit {α:Type}[Rep α]{w w':World}{base:Nat}{e:TypeId}{v:Value}{l:List α}(h:Own w' base e v l)(hb:base=w.heap.size):∀g,v.ownBlock=some g→w.heap.size≤g:=fun g hg=>hb▸(h.lt g hg).1
structure St1 (w wr:World)(Y:Nat)(k:Nat)(v:Value)(us:List Raw)(ls:List (List Word)):Prop where
 y:TBox wr Y v (.slice none 0 0)
 x:TBox wr w.heap.size (.slice none 0 0) (.slice none 0 0)
 n:Nest wr (fun g=>Y<g) 41 117 v us ls
 l:ls.length=k
 f:∀p∈ls,Fresh 40 p
 b:Below w.heap.size w wr
theorem St1.push {w wr w4 w5:World}{Y k:Nat}{v v':Value}{us:List Raw}{ls:List (List Word)}{u:Raw}{p:List Word}{o:Obj}(h:St1 w wr Y k v us ls)(hY:w.heap.size<Y)(hb4:Below wr.heap.size wr w4)(hu:Own w4 wr.heap.size 117 u.v p)(hp:Fresh 40 p) (hown:Own w5 0 41 v' (us++[u])) (hg:(w4.alloc o).grownBy w5 v.ownBlock) (hat:v'.ownBlock=v.ownBlock∨v'.ownBlock=some (w4.alloc o).heap.size):
 St1 w (w5.setCell ⟨Y,0,none⟩ v') Y (k+1) v' (us++[u]) (ls++[p]):=by
 have hylt:=h.y.lt;have hz:=hb4.size;have hvB:∀g,v.ownBlock=some g→Y<g:=h.n.mv;have keep:∀b,b<w4.heap.size→some b≠v.ownBlock→w5.heap[b]? =w4.heap[b]? :=fun b hb hne=>(hg.block b (by simp;omega) hne).trans (Below.heap_alloc w4 o b hb)
 have y5:TBox w5 Y v (.slice none 0 0):=(h.y.below hb4).kept (keep Y (by omega) (fun e=>by have:=hvB Y e.symm;omega));have x5:TBox w5 w.heap.size (.slice none 0 0) (.slice none 0 0):=(h.x.below hb4).kept (keep _ (by omega) (fun e=>by have:=hvB _ e.symm;omega))
 have n5:Nest w5 (fun g=>Y<g) _ _ v' (us++[u]) (ls++[p]):=
  (Nest.push (B:=fun g=>Y<g∧g<wr.heap.size) (B':=fun g=>Y<g) (H:=(w4.alloc o).heap.size) ((h.n.mono fun g hg' hB=>⟨hB,hg'⟩).below hb4) (hu.re (Nat.zero_le _)) (fun g hg'=>by have:=hu.fit rfl g hg';exact⟨fun hh=>by have:=hh.2;omega,by omega⟩) keep hown hat (by simp) (fun g hh=>hh.1) (by simp;omega))
 refine⟨y5.set0 v',x5.other (by omega) v',n5.kept fun g hg' hB=>Qad w5 Y 0 v' (by omega),by simp[h.l],fun q hq=>?_,?_⟩
 ·rcases List.mem_append.1 hq with hq|hq
  ·exact h.f q hq
  ·rw[List.mem_singleton] at hq;subst hq;exact hp
 ·have b4:Below w.heap.size w w4:=h.b.trans (hb4.mono h.b.size);have b5:Below w.heap.size w w5:=(b4.alloc b4.size o).grown hg (by have:=b4.size;simp;omega) (fun g hg'=>by have:=hvB g hg';omega);exact b5.setCell (p:=⟨Y,0,none⟩) (by show w.heap.size≤Y;omega) v'
theorem St1.cell {w wr w4 w5:World}{Y k:Nat}{v:Value}{us:List Raw}{ls:List (List Word)}{o:Obj}(h:St1 w wr Y k v us ls)(_hY:w.heap.size<Y)(hb4:Below wr.heap.size wr w4)(hg:(w4.alloc o).grownBy w5 v.ownBlock):w5.cell? ⟨Y,0,none⟩=some v∧∀o,w5.frozen? ⟨Y,o,none⟩=false:=by
 have y5:TBox w5 Y v (.slice none 0 0):=(h.y.below hb4).kept ((hg.block Y (by have:=h.y.lt;have:=hb4.size;simp;omega) (fun e=>by have:=h.n.mv Y e.symm;omega)).trans (Below.heap_alloc w4 o Y (by have:=h.y.lt;have:=hb4.size;omega)));exact⟨y5.c0,y5.fz⟩
def QaM (l:List Word):List Int:=(l.map (·.n)).filter (fun x=>x != 0)
theorem Qax (a b:List Word):QaM (a++b)=QaM a++QaM b:=by unfold QaM;rw[List.map_append,List.filter_append]
theorem Qc4 {l:List Word}(h:∀x∈l,x.n=0):QaM l=[]:=by
 unfold QaM;rw[List.filter_eq_nil_iff];intro y hy;obtain⟨x,hx,rfl⟩:=List.mem_map.1 hy;rw[h x hx];simp
theorem seqOf_none {ls:List (List Word)}(h:∀p∈ls,QcF p):QaM ls.flatten=[]:=Qc4 fun x hx=>by
 obtain⟨p,hp,hxp⟩:=List.mem_flatten.1 hx;exact h p hp x hxp
theorem seq_set (ls:List (List Word))(k i:Nat)(hk:k<ls.length)(hi:i<ls[k].length)(m:Int)(hm:m≠0)(hl:∀p∈ls.drop (k+1),QcF p)(h0:∀j (hj:j<ls[k].length),i≤j→ls[k][j].n=0):
 QaM (ls.set k (ls[k].set i (QaJ ls[k][i] m))).flatten=QaM ls.flatten++[m]:=by
 have e1:ls.set k (ls[k].set i (QaJ ls[k][i] m))=ls.take k++(ls[k].set i (QaJ ls[k][i] m)::ls.drop (k+1)):=by rw[List.set_eq_take_append_cons_drop,if_pos hk]
 have e2:ls=ls.take k++(ls[k]::ls.drop (k+1)):=by rw[←List.drop_eq_getElem_cons hk,List.take_append_drop]
 have e3:ls[k].set i (QaJ ls[k][i] m)=ls[k].take i++(QaJ ls[k][i] m::ls[k].drop (i+1)):=by rw[List.set_eq_take_append_cons_drop,if_pos hi]
 have e4:ls[k]=ls[k].take i++ls[k].drop i:=(List.take_append_drop i _).symm
 have d1:QaM (ls[k].drop i)=[]:=Qc4 fun x hx=>by
  obtain⟨j,hj,rfl⟩:=List.getElem_of_mem hx;rw[List.length_drop] at hj;rw[List.getElem_drop];exact h0 (i+j) (by omega) (by omega)
 have d2:QaM (ls[k].drop (i+1))=[]:=Qc4 fun x hx=>by
  obtain⟨j,hj,rfl⟩:=List.getElem_of_mem hx;rw[List.length_drop] at hj;rw[List.getElem_drop];exact h0 (i+1+j) (by omega) (by omega)
 have d3:=seqOf_none hl;have d4:QaM [QaJ ls[k][i] m]=[m]:=by simp[QaM,QaJ,hm]
 have l1:QaM (ls.set k (ls[k].set i (QaJ ls[k][i] m))).flatten=QaM (ls.take k).flatten++(QaM (ls[k].take i)++[m]):=by
  rw[e1,List.flatten_append,List.flatten_cons,Qax,Qax,d3,List.append_nil,e3,Qax,←List.singleton_append,Qax,d4,d2,List.append_nil]
 have l2:QaM ls.flatten=QaM (ls.take k).flatten++QaM (ls[k].take i):=by
  conv=>lhs;rw[e2,List.flatten_append,List.flatten_cons,Qax,Qax,d3,List.append_nil,e4,Qax,d1,List.append_nil]
 rw[l1,l2,List.append_assoc]
structure GText (ls ns:List (List Word)):Prop where
 l1:1≤ls.length
 l4:ls.length≤4
 n3:ns.length≤3
 p:∀p∈ls,1≤p.length∧p.length≤40∧∀x∈p,Good x
 q:∀p∈ns,Fresh 12 p
 s:QaM ls.flatten=(List.range ns.length).map (fun i:Nat=>(i:Int)+1)
structure St2 (w wr:World)(Y H:Nat)(v vn:Value)(us un:List Raw)(ls ns:List (List Word)):Prop where
 y:TBox wr Y v vn
 x:TBox wr w.heap.size (.slice none 0 0) (.slice none 0 0)
 n:Nest wr (fun g=>Y<g∧g<H) 41 117 v us ls
 m:Nest wr (fun g=>H≤g) 41 117 vn un ns
 b:Below w.heap.size w wr
 hz:H≤wr.heap.size
 yh:Y<H
theorem St1.next {w wr:World}{Y k:Nat}{v:Value}{us:List Raw}{ls:List (List Word)}(h:St1 w wr Y k v us ls):St2 w wr Y wr.heap.size v (.slice none 0 0) us [] ls []:=
 ⟨h.y,h.x,h.n.mono fun _ hg hB=>⟨hB,hg⟩,Nest.nil _ _ _ _,h.b,Nat.le_refl _,h.y.lt⟩
theorem St2.inner {w wr w':World}{Y H:Nat}{v vn:Value}{us un:List Raw}{ls ns:List (List Word)}(h:St2 w wr Y H v vn us un ls ns)(hY:w.heap.size<Y)(i:Nat)(hi:i<us.length){q:List Word}{g:Nat}(hg:us[i].v.ownBlock=some g) (hown:Own w' 0 117 us[i].v q) (hgr:wr.grownBy w' (some g)):St2 w w' Y H v vn us un (ls.set i q) ns:=by
 have hgB:=h.n.mi i hi g hg;have kp:∀b,b<wr.heap.size→b≠g→w'.heap[b]? =wr.heap[b]? :=fun b hb hne=>hgr.block b hb (fun e=>hne (by injection e))
 exact⟨h.y.kept (kp _ h.y.lt (by omega)),h.x.kept (kp _ h.x.lt (by omega)),h.n.inner i hi (fun b hb hne=>kp b hb (fun e=>hne (by rw[e,hg]))) hown,h.m.kept (fun b hb hB=>kp b hb (by omega)),h.b.grown hgr h.b.size (fun g' hg'=>by injection hg' with e;omega),Nat.le_trans h.hz hgr.size,h.yh⟩
theorem St2.cells {w wr w4 w5:World}{Y H:Nat}{v vn:Value}{us un:List Raw}{ls ns:List (List Word)}{o:Obj}(h:St2 w wr Y H v vn us un ls ns)(hb4:Below wr.heap.size wr w4)(hg:(w4.alloc o).grownBy w5 vn.ownBlock):w5.cell? ⟨Y,1,none⟩=some vn∧∀o,w5.frozen? ⟨Y,o,none⟩=false:=by
 have y5:TBox w5 Y v vn:=(h.y.below hb4).kept ((hg.block Y (by have:=h.y.lt;have:=hb4.size;simp;omega) (fun e=>by have:=h.m.mv Y e.symm;have:=h.yh;omega)).trans (Below.heap_alloc w4 o Y (by have:=h.y.lt;have:=hb4.size;omega)));exact⟨y5.c1,y5.fz⟩
theorem St2.push {w wr w4 w5:World}{Y H:Nat}{v vn v':Value}{us un:List Raw}{ls ns:List (List Word)}{u:Raw}{p:List Word}{o:Obj}(h:St2 w wr Y H v vn us un ls ns)(hY:w.heap.size<Y)(hb4:Below wr.heap.size wr w4)(hu:Own w4 wr.heap.size 117 u.v p) (hown:Own w5 0 41 v' (un++[u])) (hg:(w4.alloc o).grownBy w5 vn.ownBlock) (hat:v'.ownBlock=vn.ownBlock∨v'.ownBlock=some (w4.alloc o).heap.size):
 St2 w (w5.setCell ⟨Y,1,none⟩ v') Y H v v' us (un++[u]) ls (ns++[p]):=by
 have hylt:=h.y.lt;have hz:=hb4.size;have hzH:=h.hz;have hyH:=h.yh;have hvB:∀g,vn.ownBlock=some g→H≤g:=h.m.mv;have keep:∀b,b<w4.heap.size→some b≠vn.ownBlock→w5.heap[b]? =w4.heap[b]? :=fun b hb hne=>(hg.block b (by simp;omega) hne).trans (Below.heap_alloc w4 o b hb)
 have y5:TBox w5 Y v vn:=(h.y.below hb4).kept (keep Y (by omega) (fun e=>by have:=hvB Y e.symm;omega));have x5:TBox w5 w.heap.size (.slice none 0 0) (.slice none 0 0):=(h.x.below hb4).kept (keep _ (by omega) (fun e=>by have:=hvB _ e.symm;omega));have n5:Nest w5 (fun g=>Y<g∧g<H) _ _ v us ls:=(h.n.below hb4).kept fun g hg' hB=>keep g hg' (fun e=>by have:=hvB _ e.symm;omega)
 have m5:Nest w5 (fun g=>H≤g) _ _ v' (un++[u]) (ns++[p]):=
  (Nest.push (B:=fun g=>H≤g∧g<wr.heap.size) (B':=fun g=>H≤g) (H:=(w4.alloc o).heap.size) ((h.m.mono fun g hg' hB=>⟨hB,hg'⟩).below hb4) (hu.re (Nat.zero_le _)) (fun g hg'=>by have:=hu.fit rfl g hg';exact⟨fun hh=>by have:=hh.2;omega,by omega⟩) keep hown hat (by simp) (fun g hh=>hh.1) (by simp;omega))
 have b4:Below w.heap.size w w4:=h.b.trans (hb4.mono h.b.size);have b5:Below w.heap.size w w5:=(b4.alloc b4.size o).grown hg (by have:=b4.size;simp;omega) (fun g hg'=>by have:=hvB g hg';omega);have hz5:=hg.size;refine⟨y5.set1 v',x5.other (by omega) v',n5.kept fun g hg' hB=>Qad w5 Y 1 v' (by omega),m5.kept fun g hg' hB=>Qad w5 Y 1 v' (by omega),b5.setCell (p:=⟨Y,1,none⟩) (by show w.heap.size≤Y;omega) v',?_,h.yh⟩;have:(w4.alloc o).heap.size=w4.heap.size+1:=by simp
 simp only[World.size_setCell];omega
theorem St2.below {w wr w':World}{Y H:Nat}{v vn:Value}{us un:List Raw}{ls ns:List (List Word)}(h:St2 w wr Y H v vn us un ls ns)(hb:Below wr.heap.size wr w'):St2 w w' Y H v vn us un ls ns:=
 ⟨h.y.below hb,h.x.below hb,h.n.below hb,h.m.below hb,h.b.trans (hb.mono h.b.size),Nat.le_trans h.hz hb.size,h.yh⟩
theorem GText.next {ls ns:List (List Word)}(h:GText ls ns)(k:Nat)(hk:k<ls.length){q p:List Word}(hq:QcX ls[k] ((ns.length:Int)+1) true q)(hl:∀p∈ls.drop (k+1),QcF p)(hp:Fresh 12 p)(h3:ns.length+1≤3):GText (ls.set k q) (ns++[p]):=by
 rcases hq with⟨h0,_⟩|⟨_,i,hi,h0,rfl⟩
 ·cases h0
 ·have hpk:=h.p ls[k] (List.getElem_mem hk);refine⟨by rw[List.length_set];exact h.l1,by rw[List.length_set];exact h.l4,by simp;omega,fun r hr=>?_,fun r hr=>?_,?_⟩
  ·rcases List.mem_or_eq_of_mem_set hr with hr|rfl
   ·exact h.p r hr
   ·rw[List.length_set];refine⟨hpk.1,hpk.2.1,fun x hx=>?_⟩;rcases List.mem_or_eq_of_mem_set hx with hx|rfl
    ·exact hpk.2.2 x hx
    ·exact(show Good ls[k][i] from hpk.2.2 _ (List.getElem_mem hi))
  ·rcases List.mem_append.1 hr with hr|hr
   ·exact h.q r hr
   ·rw[List.mem_singleton] at hr;subst hr;exact hp
  ·rw[seq_set ls k i hk hi _ (by omega) hl h0,h.s,qA,List.length_singleton,List.range_succ,List.map_append];rfl
theorem St2.stay {w wr w':World}{Y H:Nat}{v vn:Value}{us un:List Raw}{ls ns:List (List Word)}(h:St2 w wr Y H v vn us un ls ns)(hY:w.heap.size<Y)(i:Nat)(hi:i<us.length)(hi':i<ls.length){q:List Word}{g:Nat}{m:Int}(hg:us[i].v.ownBlock=some g) (hq:QcX ls[i] m false q) (hown:Own w' 0 117 us[i].v q) (hgr:wr.grownBy w' (some g)):St2 w w' Y H v vn us un ls ns:=by
 rcases hq with⟨_,rfl⟩|⟨h0,_⟩
 ·have:=h.inner hY i hi hg hown hgr;rwa [List.set_getElem_self] at this
 ·cases h0
def IsText (w:World)(e:Ending)(w':World):Prop:=
 ∃v vn ls ns,e=.returned (.agg #[v,vn])∧GText ls ns∧(∃B us un,Nest w' (fun g=>w.heap.size≤g∧g<B) 41 117 v us ls∧Nest w' (fun g=>B≤g) 41 117 vn un ns)∧Below w.heap.size w w'
set_option maxRecDepth 100000 in
theorem text_any (A:Option Addr)(c:Nat)(l:List Int)(w:World)(hl:Sl w (fun b=>b<w.heap.size) A c l):
 Calls Tryd.prog 33 #[.slice A l.length c] w (IsText w):=by
 have hb0:=((Below.refl w.heap.size w).alloc nL (.cells #[.slice none 0 0,.slice none 0 0] 38));have hb1:=hb0.alloc (by simp) (.cells #[.slice none 0 0,.slice none 0 0] 38);have HB:=Lh hb1;have HL:=Lh hl;clear hl hb0 hb1;go_enter Tryd.func33,Tryd.ntmps33;go_wp2_with fail;have hx:TBox ((w.alloc (.cells #[.slice none 0 0,.slice none 0 0] 38)).alloc (.cells #[.slice none 0 0,.slice none 0 0] 38)) w.heap.size (.slice none 0 0) (.slice none 0 0):=⟨(Below.heap_alloc _ _ _ (by simp)).trans (QaU rfl)⟩;have hy:TBox ((w.alloc (.cells #[.slice none 0 0,.slice none 0 0] 38)).alloc (.cells #[.slice none 0 0,.slice none 0 0] 38)) (w.heap.size+1) (.slice none 0 0) (.slice none 0 0):=⟨QaU (by simp)⟩;generalize ((w.alloc (.cells #[.slice none 0 0,.slice none 0 0] 38)).alloc (.cells #[.slice none 0 0,.slice none 0 0] 38))=w1 at*;have S0:St1 w w1 (w.heap.size+1) 0 (.slice none 0 0) [] []:=⟨hy,hx,Nest.nil _ _ _ _,rfl,fun _ h=>(by cases h),HB.out⟩;have HS0:=Lh S0;clear hx hy S0;have hYX:w.heap.size<w.heap.size+1:=by omega
 generalize w.heap.size+1=Y at*;refine(QaX A c l 1 4 _ (HL.out.to HB.out) (by decide) (by decide) (by decide)).mono ?_;rintro e w' ⟨r0,rfl,hr0,rfl⟩;clear HB;go_wp2_with fail;go_loopw [5] (fun i wr=>∃k:Nat,k≤4∧i=.int .i64 k∧∃v us ls,Hid (St1 w wr Y k v us ls)) (fun i _=>5-(intOf i).toNat);(case atStart=>exact⟨0,by omega,rfl,_,_,_,HS0⟩);case round=>
  obtain⟨k,hk,rfl,v,us,ls,hst⟩:=hrel;have hk0:0≤(k:Int):=(by omega);go_wp2_with fail;refine(QaX A c l 0 4 _ (HL.out.to hst.out.b) (by decide) (by decide) (by decide)).mono ?_;rintro e w' ⟨r,rfl,hr,rfl⟩;by_cases hkr:k≤r
  ·have hkr':(k:Int)≤(r:Int):=by omega
   have hk3:(k:Int)≤3:=(by omega);have hle:us.length≤4:=(by have:=hst.out.n.len;have:=hst.out.l;omega);obtain⟨A1,c1,rfl,_,_⟩:=hst.out.n.own.form;have t0:=hst.out.y.c0;have hsz:=hst.out.b.size;have hw2:IntKind.i64.wrap (2+(k:Int))=2+(k:Int):=(by rw[IntWalk.i64_in _ (by omega)]);have hw3:0≤2+(k:Int):=(by omega);go_wp2_with fail
   go_region_law (first|(rw[if_pos (by rfl)];go_simp;go_at_call 14;refine(QaX A c l (2+(k:Int)) 1000000 _ (HL.out.to hst.out.b.drew) (by decide) (by decide) hw3).mono ?_;rintro e w' ⟨r2,rfl,hr2,rfl⟩)|(rw[if_pos (by rfl)];go_simp;go_at_call 46;refine(part_any r2 40 (by omega) (by decide) (by decide) _).mono ?_;rintro e w4 ⟨vp,rfl,p,hown4,hplen,hpg,hb4'⟩;have hb4:=(Below.refl wr.heap.size wr).drew.trans hb4';clear hb4';have t4:=(hb4.cell (p:=⟨Y,0,none⟩) hst.out.y.lt).trans t0;obtain⟨Ap,cp,rfl,_,_⟩:=hown4.form;have HPL:=Lh hplen;have HPG:=Lh hpg;clear hplen hpg;have n4:=fun ob=>((hst.out.y.below hb4).below (bR.alloc nL ob)).c0)|((refine Qcd (α:=Raw) _ (by rfl) (.tmp 18) (.tmp 24) 36 (by rfl) 0 41 (.slice none 0 0) 24 Tryd.underlying36 raw_info rfl (by decide) _ us (by rfl) ((hst.out.n.own.below hb4).alloc _) w4.heap.size _ ⟨.slice Ap p.length cp,rfl⟩ (0,0) 41 (by rfl) (heap_alloc_new w4 _) rfl (by omega) (by omega) (by simp) _ rfl ?_);intro g cap w5 hown5 hg5 hat5 hlt5;obtain⟨t5,z5⟩:=St1.cell hst.out hYX hb4 hg5)|fail)
   (all_goals go_wp2_with fail);(all_goals go_roundw);all_goals first
    |exact⟨k+1,by omega,by go_num,_,_,_,St1.push (u:=⟨.slice Ap p.length cp,rfl⟩) hst.out hYX hb4 (hown4.re nL) ⟨by rw[HPL.out];omega,by rw[HPL.out];omega,HPG.out⟩ hown5 hg5 (by rcases hat5 with e|e;exact .inl e.symm;exact .inr (by rw[e];rfl))⟩
    |(simp[intOf];omega)
  ·have hkr':¬(k:Int)≤(r:Int):=by omega
   have hk1:1≤k:=(by omega);have hst2:=Lh hst.out.next;have hl4:=hst.out.l;have hf:=Lh hst.out.f;have HT:Hid (GText ls []):=Lh ⟨by omega,by omega,by simp,fun p hp=>⟨(hf.out p hp).1,(hf.out p hp).2.1,fun x hx=>((hf.out p hp).2.2 x hx).1⟩,fun p hp=>(by cases hp),seqOf_none fun p hp x hx=>((hf.out p hp).2.2 x hx).2⟩;clear hst hf;generalize wr.heap.size=H at*;go_wp2_with fail;go_loopw [6,7,8] (fun i _ _ wr=>∃k:Nat,k≤r0∧i=.int .i64 k∧∃ls ns vn un,Hid (St2 w wr Y H v vn us un ls ns)∧Hid (GText ls ns)∧ns.length≤k) (fun i _ _ _=>r0-(intOf i).toNat);(case atStart=>exact⟨0,by omega,rfl,ls,[],_,[],hst2,HT,by simp⟩);case round=>
    clear hst2 HT hl4;obtain⟨k2,hk2,rfl,ls,ns,vn,un,hst,hgt,hnk⟩:=hrel;have hk20:0≤(k2:Int):=(by omega);by_cases hlt:k2<r0
    ·have hlt':(k2:Int)<(r0:Int):=by omega
     have hw6:IntKind.i64.wrap (6+(k2:Int))=6+(k2:Int):=(by rw[IntWalk.i64_in _ (by omega)]);have hw60:0≤6+(k2:Int):=(by omega);go_wp2_with fail;refine(QaX A c l (6+(k2:Int)) 1000000 _ (HL.out.to hst.out.b) (by decide) (by decide) (by omega)).mono ?_;rintro e w' ⟨r2,rfl,hr2,rfl⟩;have hlens:∀p∈ls,p.length<9223372036854775808:=fun p hp=>by have:=(hgt.out.p p hp).2.1;omega
     have hlensn:∀p∈ns,p.length<9223372036854775808:=fun p hp=>by have:=(hgt.out.q p hp).2.1;omega
     obtain⟨A1,c1,rfl,_⟩:=hst.out.n.sl hlens;obtain⟨A2,c2,rfl,_⟩:=hst.out.m.sl hlensn;have HLS:=Lh hlens;have hn3:ns.length≤3:=(by omega);have hl4:=hgt.out.l4;have hwn:IntKind.i64.wrap ((ns.length:Int)+1)=(ns.length:Int)+1:=(by rw[IntWalk.i64_in _ (by omega)]);clear hlens hlensn;go_wp2_with fail;go_loopw [8] (fun i wr3=>∃j:Nat,j≤ls.length∧i=.int .i64 j∧Hid (St2 w wr3 Y H (.slice A1 ls.length c1) (.slice A2 ns.length c2) us un ls ns)) (fun i _=>ls.length-(intOf i).toNat);(case atStart=>exact⟨0,by omega,rfl,hst⟩);case round=>
      clear hst;obtain⟨j,hj,rfl,hst⟩:=hrel;have t0:=hst.out.y.c0;have t1:=hst.out.y.c1;have hj0:0≤(j:Int):=(by omega);have hj4:(j:Int)≤4:=(by omega);by_cases hjl:j<ls.length
      ·have hjl':(j:Int)<(ls.length:Int):=by omega
       obtain⟨gv,cap,hu,ev,hgl,hB,_,hcell,hfz⟩:=hst.out.n.at_ hjl;obtain⟨rfl,rfl⟩:A1=some ⟨gv,0,none⟩∧c1=cap:=by have:=Value.slice.inj ev;exact⟨this.1,this.2.2⟩
       have hpj:=hgt.out.p ls[j] (List.getElem_mem hjl);obtain⟨gk,capk,es,ek,_,hgk,hrest⟩:=(hst.out.n.inn j hu hjl).at_ (k:=0) (by omega);clear hrest;have hrow:=hst.out.n.inn j hu hjl;have EK:=Lh (show us[j].v.ownBlock=some gk by rw[ek];rfl);rw[ek] at hcell;have HEK:=Lh ek;rw[ek] at hrow;have HROW:=Lh hrow;have hlj:ls[j].length≤40:=hpj.2.1;obtain⟨As,cs,es2,hsl⟩:=hst.out.n.sl HLS.out;obtain⟨rfl,rfl⟩:As=some ⟨gv,0,none⟩∧cs=c1:=by have:=Value.slice.inj es2;exact⟨this.1.symm,this.2.2.symm⟩
       have HSL:=Lh hsl;have hYg:some Y≠some gk:=fun e=>by have:=(hst.out.n.mi j hu gk EK.out).1;injection e with e;omega
       have hvg:some gv≠some gk:=hst.out.n.ne j hu gk EK.out;clear ev es2 hsl hrow ek hfz;go_wp2_with fail
       go_region_held3 (fun w'=>w'.cell? ⟨Y,0,none⟩=some (.slice (some ⟨gv,0,none⟩) ls.length cs)∧w'.cell? ⟨Y,1,none⟩=some (.slice A2 ns.length c2)∧w'.cell? ⟨gv,j,none⟩=some (.slice (some ⟨gk,0,none⟩) ls[j].length capk)) (go_keep)
        (first|(go_at_call 48;refine(last_any _ _ ls j _ HSL.out.drew (by omega)).mono ?_;rintro e w5 ⟨b5,rfl,hb5,rfl⟩)|(go_at_call 47;refine(refer_any gk capk ls[j] r2 ((ns.length:Int)+1) b5 _ HROW.out.drew (by omega) (by omega) (by omega) (by omega)).mono ?_;rintro e w6 ⟨b6,rfl,q6,hq6,hl6,hlq6,hown6,hg6⟩;have hg6':=(grown_drew (World.grownBy.refl wr (some gk))).trans hg6;have f0:=hg6'.cell t0 hYg;have f1:=hg6'.cell t1 hYg;have f2:=hg6'.cell hcell hvg)|fail)
       clear hcell f2 hYg hvg;cases b6 with
       |false=>
        have hst2:=Lh (hst.out.stay hYX j hu hjl EK.out hq6 (by rw[HEK.out];exact hown6) hg6');clear hq6 hb5 hl6 hlq6 hown6 hg6 hg6' t0 t1 hwn;unfold Exit.then;go_wp2_with fail;go_roundw;(case rel=>exact⟨j+1,by omega,by go_num,hst2⟩);case measure=>simp[intOf];omega
       |true=>
        have hst2:=Lh (hst.out.inner hYX j hu EK.out (by rw[HEK.out];exact hown6) hg6');have HLF:=Lh (hb5 (hl6 rfl));have HQ6:=Lh hq6;clear hq6 hb5 hl6 hlq6 hown6 hg6 hg6' t0 t1 hwn;unfold Exit.then;go_wp2_with fail
        go_region_law (first|(rw[if_pos (by rfl)];go_simp;go_at_call 46;refine(part_any r2 12 (by omega) (by decide) (by decide) _).mono ?_;rintro e w7 ⟨vp,rfl,p,hown7,hplen,hpg,hb7'⟩;have hb7:=(Below.refl w6.heap.size w6).drew.trans hb7';clear hb7';have t7:=(hb7.cell (p:=⟨Y,1,none⟩) hst2.out.y.lt).trans f1;obtain⟨Ap,cp,rfl,_,_⟩:=hown7.form;have HPL:=Lh hplen;have HPG:=Lh hpg;clear hplen hpg;have n7:=fun ob=>((hst2.out.y.below hb7).below (bR.alloc nL ob)).c1)|((refine Qcd (α:=Raw) _ (by rfl) (.tmp 67) (.tmp 70) 36 (by rfl) 0 41 (.slice none 0 0) 24 Tryd.underlying36 raw_info rfl (by decide) _ un (by rfl) ((hst2.out.m.own.below hb7).alloc _) w7.heap.size _ ⟨.slice Ap p.length cp,rfl⟩ (0,0) 41 (by rfl) (heap_alloc_new w7 _) rfl (by have:=hst2.out.m.len;omega) (by have:=hst2.out.m.len;omega) (by simp) _ rfl ?_);intro g cap8 w8 hown8 hg8 hat8 hlt8;obtain⟨t8,z8⟩:=St2.cells hst2.out hb7 hg8)|fail)
        (all_goals go_wp2_with fail);(all_goals go_roundw);all_goals first
         |exact⟨k2+1,by omega,by go_num,_,_,_,_,St2.push (u:=⟨.slice Ap p.length cp,rfl⟩) hst2.out hYX hb7 (hown7.re nL) hown8 hg8 (by rcases hat8 with e|e;exact .inl e.symm;exact .inr (by rw[e];rfl)),hgt.out.next j hjl HQ6.out HLF.out ⟨by rw[HPL.out];omega,by rw[HPL.out];omega,HPG.out⟩ (by omega),by simp;omega⟩
         |(simp[intOf];omega)
      ·have hjl':¬(j:Int)<(ls.length:Int):=by omega
       go_wp2_with fail;go_quiet (fail);have hst2:=Lh (hst.out.below (Below.dn bR nq));go_wp2_with fail;go_roundw;(case rel=>exact⟨k2+1,by omega,by go_num,ls,ns,_,un,hst2,hgt,by omega⟩);case measure=>simp[intOf];omega
    ·have hlt':¬(k2:Int)<(r0:Int):=by omega
     have hlens:∀p∈ls,p.length<9223372036854775808:=fun p hp=>by have:=(hgt.out.p p hp).2.1;omega
     have hlensn:∀p∈ns,p.length<9223372036854775808:=fun p hp=>by have:=(hgt.out.q p hp).2.1;omega
     obtain⟨A1,c1,rfl,_⟩:=hst.out.n.sl hlens;obtain⟨A2,c2,rfl,_⟩:=hst.out.m.sl hlensn;have t0:=hst.out.y.c0;have t1:=hst.out.y.c1;have x0:=hst.out.x.c0;have x1:=hst.out.x.c1;have hfz:=hst.out.x.fz;have hz:=hst.out.b.size;have hyx:=hst.out.y.lt;go_wp2_with fail;refine bodyPost_ret (v:=.agg #[.slice A1 ls.length c1,.slice A2 ns.length c2]) (by simp[results,Tryd.results33,go_sem,x0,x1]) rfl ⟨_,_,ls,ns,rfl,hgt.out,⟨H,us,un,?_,?_⟩,?_⟩
     ·exact(hst.out.n.kept fun g hg hB=>((Qad _ _ 1 _ (by omega)).trans (Qad _ _ 0 _ (by omega)))).mono fun g _ hB=>⟨by omega,hB.2⟩
     ·exact hst.out.m.kept fun g hg hB=>by have:=hst.out.yh;exact((Qad _ _ 1 _ (by omega)).trans (Qad _ _ 0 _ (by omega)))
     ·exact(hst.out.b.setCell (p:=⟨w.heap.size,0,none⟩) nL _).setCell (p:=⟨w.heap.size,1,none⟩) nL _
theorem tot_bd (m:Nat):∀(l:List (List Word)),(∀p∈l,p.length≤m)→tot l≤l.length*m
 |[],_=>by simp[tot]
 |p::l,h=>by
  have h1:=h p (List.mem_cons_self ..);have h2:=tot_bd m l (fun q hq=>h q (List.mem_cons_of_mem _ hq));have e:tot (p::l)=p.length+tot l:=(by unfold tot;rw[List.flatten_cons,qA]);rw[e,qC,Nat.add_mul,Nat.one_mul];omega
theorem GText.tot {ls ns:List (List Word)}(h:GText ls ns):tot (ls++ns)≤196:=by
 rw[Qbt];have h1:=tot_bd 40 ls (fun p hp=>(h.p p hp).2.1);have h2:=tot_bd 12 ns (fun p hp=>(h.q p hp).2.1);have h3:ls.length*40≤4*40:=Nat.mul_le_mul_right _ h.l4;have h4:ns.length*12≤3*12:=Nat.mul_le_mul_right _ h.n3;omega
structure TX (w:World)(A:Option Addr)(c:Nat)(B:Option Addr)(d:Nat)(a b:List (List Word)):Prop where
 sa:Sl w (fun b=>b<w.heap.size) A c a
 sb:Sl w (fun b=>b<w.heap.size) B d b
 la:a.length≤1048576
 lb:b.length≤1048576
 t:tot (a++b)≤1048576
theorem GText.lens {ls ns:List (List Word)}(h:GText ls ns):(∀p∈ls,p.length<9223372036854775808)∧(∀p∈ns,p.length<9223372036854775808):=
 ⟨fun p hp=>by have:=(h.p p hp).2.1;omega,fun p hp=>by have:=(h.q p hp).2.1;omega⟩
def up:Int→Nat→List Int
 |_,0=>[]
 |a,m+1=>(a+1)::up (a+1) m
theorem up_range:∀(n:Nat) (a:Int),(List.range n).map (fun i:Nat=>a+((i:Int)+1))=up a n
 |0,_=>rfl
 |n+1,a=>by
  rw[List.range_succ_eq_map,List.map_cons,List.map_map,up,←up_range n (a+1)];congr 1;apply List.map_congr_left;intro i _;simp only[Function.comp];omega
theorem up_split:∀(l1 l2:List Int) (a:Int) (m:Nat),l1++l2=up a m→l1=up a l1.length∧l2=up (a+l1.length) l2.length∧m=l1.length+l2.length
 |[],l2,a,m,h=>by
  have hl:l2.length=m:=by
   have:∀(m:Nat) (a:Int),(up a m).length=m:=by
    intro m;induction m with
    |zero=>intro a;rfl
    |succ m ih=>intro a;rw[up,qC,ih]
   have h':=congrArg List.length h;rw[this] at h';simpa using h'
  subst hl;refine⟨rfl,?_,by simp⟩;simpa using h
 |x::l1,l2,a,0,h=>by simp[up] at h
 |x::l1,l2,a,m+1,h=>by
  rw[List.cons_append,up] at h;obtain⟨h1,h2⟩:=List.cons.inj h;obtain⟨e1,e2,e3⟩:=up_split l1 l2 (a+1) m h2;refine⟨by rw[qC,up,←e1,h1],?_,by rw[qC];omega⟩;rw[qC,show a+((l1.length+1:Nat):Int)=a+1+l1.length by omega];exact e2
theorem seqOf_cons (x:Word)(r:List Word):QaM (x::r)=if x.n=0 then QaM r else x.n::QaM r:=by
 unfold QaM;rw[List.map_cons];by_cases h:x.n=0
 ·rw[if_pos h,List.filter_cons_of_neg (by simp[h])]
 ·rw[if_neg h,List.filter_cons_of_pos (by simp[h])]
def Fine (x:Word):Prop:=badW x=false∧(x.t=0∨x.t=1)
theorem Qcy {np nn i:Nat}(hi:i<np):∀(p:List Word) (notes:Int) (m:Nat),(∀x∈p,Fine x)→QaM p=up notes m→notes+m≤nn→Qav np nn i notes p=(0,notes+m)
 |[],notes,m,_,hs,_=>by
  have:m=0:=by
   cases m with
   |zero=>rfl
   |succ m=>simp[QaM,up] at hs
  subst this;simp[Qav]
 |x::r,notes,m,hf,hs,hn=>by
  have hx:=hf x (List.mem_cons_self ..);have hr:∀y∈r,Fine y:=fun y hy=>hf y (List.mem_cons_of_mem _ hy)
  rw[seqOf_cons] at hs;by_cases h0:x.n=0
  ·rw[if_pos h0] at hs;rw[Qav,QbO hx.1 hx.2 h0,if_pos rfl];exact Qcy hi r notes m hr hs hn
  ·rw[if_neg h0] at hs;cases m with
   |zero=>simp[up] at hs
   |succ m=>
    rw[up] at hs;obtain⟨h1,h2⟩:=List.cons.inj hs;rw[Qav,Qdi hx.1 hx.2 h0 (by rintro(h|h|h)<;>omega),if_pos rfl];rw[Qcy hi r (notes+1) m hr h2 (by omega)];simp only[Prod.mk.injEq,true_and];omega
theorem scanW_none {np nn i:Nat}:∀(p:List Word) (notes:Int),(∀x∈p,Fine x∧x.n=0)→Qav np nn i notes p=(0,notes)
 |[],notes,_=>rfl
 |x::r,notes,hf=>by
  have hx:=hf x (List.mem_cons_self ..);rw[Qav,QbO hx.1.1 hx.1.2 hx.2,if_pos rfl];exact scanW_none r notes (fun y hy=>hf y (List.mem_cons_of_mem _ hy))
theorem scanP_none {np nn:Nat}:∀(l:List (List Word)) (i:Nat) (notes:Int),(∀p∈l,∀x∈p,Fine x∧x.n=0)→Qbd np nn i notes l=(0,notes)
 |[],_,_,_=>rfl
 |p::r,i,notes,hf=>by
  rw[Qbd,scanW_none p notes (hf p (List.mem_cons_self ..)),if_pos rfl];exact scanP_none r (i+1) notes (fun q hq=>hf q (List.mem_cons_of_mem _ hq))
theorem scanP_fine {np nn:Nat}(R:List (List Word)):∀(l:List (List Word)) (i:Nat) (notes:Int) (m:Nat),i+l.length≤np→(∀p∈l,∀x∈p,Fine x)→QaM l.flatten=up notes m→notes+m≤nn→Qbd np nn i notes (l++R)=Qbd np nn (i+l.length) (notes+m) R
 |[],i,notes,m,_,_,hs,_=>by
  have:m=0:=by
   cases m with
   |zero=>rfl
   |succ m=>simp[QaM,up] at hs
  subst this;simp
 |p::r,i,notes,m,hi,hf,hs,hn=>by
  rw[qC] at hi;rw[List.flatten_cons,Qax] at hs;obtain⟨e1,e2,e3⟩:=up_split _ _ _ _ hs;have h1:=Qcy (np:=np) (nn:=nn) (i:=i) (by omega) p notes _ (hf p (List.mem_cons_self ..)) e1 (by omega);rw[List.cons_append,Qbd,h1,if_pos rfl];rw[scanP_fine R r (i+1) _ _ (by omega) (fun q hq=>hf q (List.mem_cons_of_mem _ hq)) e2 (by omega)];rw[qC];congr 1
  ·omega
  ·omega
theorem chk_fine (ls ns:List (List Word))(h1:ls.length≤100)(h2:ns.length≤100)(hl:∀p∈ls++ns,1≤p.length∧p.length≤500)(hf:∀p∈ls,∀x∈p,Fine x)(hn:∀p∈ns,∀x∈p,Fine x∧x.n=0)(hs:QaM ls.flatten=up 0 ns.length):Qdn ls ns=0:=by
 have a1:QaH Qdu (ls++ns)=false:=by
  unfold QaH;rw[List.any_eq_false];intro p hp;have:=(hl p hp).2;simp[Qdu];omega
 have a2:QaH QbX (ls++ns)=false:=by
  unfold QaH;rw[List.any_eq_false];intro p hp;have:=(hl p hp).1;simp[QbX];intro e;rw[e] at this;simp at this
 unfold Qdn;rw[if_neg (by rw[a1];simp;omega),if_neg (by rw[a2];simp)];rw[scanP_fine ns ls 0 0 ns.length (by omega) hf hs (by omega),scanP_none ns _ _ hn];unfold endP;rw[if_neg (by simp),if_neg (by simp)]
theorem Good.fine {x:Word}(h:Good x):Fine x:=by
 refine⟨?_,h.2.2⟩;by_cases hk:x.key=⟨#[]⟩
 ·exact good_nokey h.1 hk
 ·exact good_key h.1 (h.2.1.resolve_left hk)
theorem GText.seq {ls ns:List (List Word)}(h:GText ls ns):QaM ls.flatten=up 0 ns.length:=by
 rw[h.s,←up_range];apply List.map_congr_left;intro i _;omega
theorem GText.chk {ls ns:List (List Word)}(h:GText ls ns):Qdn ls ns=0:=
 chk_fine ls ns (by have:=h.l4;omega) (by have:=h.n3;omega)
  (fun p hp=>by
    rcases List.mem_append.1 hp with hp|hp
    ·have:=h.p p hp;exact⟨this.1,by have:=this.2.1;omega⟩
    ·have:=h.q p hp;exact⟨this.1,by have:=this.2.1;omega⟩)
  (fun p hp x hx=>((h.p p hp).2.2 x hx).fine) (fun p hp x hx=>⟨((h.q p hp).2.2 x hx).1.fine,((h.q p hp).2.2 x hx).2⟩) h.seq
theorem QbI {P:Program}{fn:Func}{p:Tmp}{ty:TypeId}(h:fn.results=#[.cell p ty])(tmps:Array Value)(w:World)(g:Nat)(t:TypeId)(cs:List Value)(d:TypeDesc) (hp:tmps.getD p undef=.pointer (some ⟨g,0,none⟩)) (hg:ABox w g t cs) (hu:P.underlying ty=some d) (hd:(match d with|.struct _|.array _ _=>true|_=>false)=true) (hi:(P.info? ty).map (·.size)=some cs.length):
 (results fn tmps).run P w=.ok (.agg cs.toArray) w:=by
 have hp':tmps[p]?.getD undef=.pointer (some ⟨g,0,none⟩):=by simpa using hp
 have hi':(P.info? ty).map (·.size)=some cs.toArray.size:=by simpa using hi
 simp[results,h,hp',asAddr,run_loadVar_row w g t ty cs.toArray (0,0) d hg hu hd hi']
theorem Own.slB {α:Type}[Rep α][Flat α]{w:World}{base:Nat}{e:TypeId}{v:Value}{l:List α}(h:Own w base e v l):∃A c,v=.slice A l.length c∧Sl w (fun b=>v.ownBlock=some b) A c l:=by
 obtain⟨A,c,rfl,hs⟩:=h.sl;refine⟨A,c,rfl,hs.1,hs.2.1,fun hn=>?_⟩;obtain⟨b,o,rfl,hb,hlt,hx⟩:=hs.2.2 hn;refine⟨b,o,rfl,rfl,hlt,fun i hi=>?_⟩;obtain⟨es,hr,hc⟩:=hx i hi;exact⟨es,Flat.flat hr,hc⟩
theorem Nest.slB {w:World}{B:Nat→Prop}{te ti:TypeId}{v:Value}{us:List Raw}{ls:List (List Word)}(h:Nest w B te ti v us ls)(hlen:∀l∈ls,l.length<9223372036854775808):∃A c,v=.slice A ls.length c∧Sl w B A c ls:=by
 obtain⟨A,c,e0,hs⟩:=h.own.sl;refine⟨A,c,by rw[e0,h.len],by rw[←h.len];exact hs.1,hs.2.1,fun hn=>?_⟩;obtain⟨b,o,rfl,hb,hlt,hx⟩:=hs.2.2 (by rw[h.len];exact hn);refine⟨b,o,rfl,h.mv b (by rw[e0];rfl),hlt,fun i hi=>?_⟩;have hi':i<us.length:=by rw[h.len];exact hi
 obtain⟨es,hr,hc⟩:=hx i hi';obtain⟨A1,c1,e1,hs1⟩:=(h.inn i hi' hi).slB;have hr':es=[us[i].v]:=hr;exact⟨es,⟨A1,c1,by rw[hr',e1],hs1.mono fun g hg _=>h.mi i hi' g hg,hlen _ (List.getElem_mem hi)⟩,hc⟩
def IsT (w:World)(e:Ending)(w':World):Prop:=
 ∃A c B d ls ns,e=.returned (.agg #[.slice A ls.length c,.slice B ns.length d])∧GText ls ns∧Rep.R w' (fun b=>w.heap.size≤b) [.slice A ls.length c,.slice B ns.length d] (⟨ls,ns⟩:TextP)∧Below w.heap.size w w'
theorem IsText.own {w w':World}{e:Ending}(h:IsText w e w'):IsT w e w':=by
 obtain⟨v,vn,ls,ns,rfl,hg,⟨B,us,un,h1,h2⟩,hb⟩:=h;have hle:=h1.own.lt;have hl4:=hg.l4;have hn3:=hg.n3;obtain⟨g0,_,_,_,_,hg0,_⟩:=h1.at_ (k:=0) (by have:=hg.l1;omega);obtain⟨A,c,rfl,hs⟩:=h1.slB hg.lens.1;obtain⟨A',c',rfl,hs'⟩:=h2.slB hg.lens.2;refine⟨A,c,A',c',ls,ns,rfl,hg,⟨_,_,rfl,⟨A,c,rfl,hs.mono fun i hi _=>hi.1,by dsimp only;omega⟩,⟨A',c',rfl,hs'.mono fun i hi _=>by have:B≤i:=hi;have:=hg0.1;have:=hg0.2;omega,by dsimp only;omega⟩⟩,hb⟩
theorem rtext_any (A:Option Addr)(c:Nat)(l:List Int)(k:Nat)(_:k≤1000)(w:World)(hl:Sl w (fun b=>b<w.heap.size) A c l):
 Calls Tryd.prog 15 #[.slice A l.length c,.int .i64 (k:Int)] w (IsT w):=by
 have hl1:=hl.1;have hl2:c≤9223372036854775807:=hl.2.1;obtain⟨j,hj⟩:∃j,min k l.length=j:=⟨_,rfl⟩;have hjl:j≤l.length:=by omega
 have hd:=hl.drop j hjl;have hm:min (k:Int) (l.length:Int)=(j:Int):=by omega
 have hlen:(l.drop j).length=l.length-j:=List.length_drop;obtain⟨A2,hA2⟩:∃A2,(if c=j then A else A.map (·.add (j*Rep.size Int)))=A2:=⟨_,rfl⟩;rw[hA2] at hd;have hb0:=(Below.refl w.heap.size w).alloc nL (.cells #[.slice none 0 0,.slice none 0 0] 38);have hx0:ABox (w.alloc (.cells #[.slice none 0 0,.slice none 0 0] 38)) w.heap.size 38 [.slice none 0 0,.slice none 0 0]:=heap_alloc_new w _;have hz:(w.alloc (.cells #[.slice none 0 0,.slice none 0 0] 38)).heap.size=w.heap.size+1:=by simp
 have HT:=Lh (text_any A2 (c-j) (l.drop j) _ (hd.to hb0));rw[hlen] at HT;have HJ:=Lh hj;have fin:∀(a b:Int),a=b→b=a:=fun _ _ h=>h.symm
 clear hd hlen hl hj fin;have hjI:(j:Int)≤(l.length:Int):=by omega
 have hA3:(if c=j then(.slice A (l.length-j) (c-j):Value) else .slice (A.map (·.add j)) (l.length-j) (c-j))=.slice A2 (l.length-j) (c-j):=by
  rw[←hA2];split<;>simp[Rep.size]
 have HA3:=Lh hA3;clear hA2 hA3;go_enter Tryd.func15,Tryd.ntmps15;go_upto_region 1 with(fail);generalize w.alloc (.cells #[.slice none 0 0,.slice none 0 0] 38)=w0 at*;have HB0:=Lh hb0;have HX0:=Lh hx0;have HZ:=Lh hz;clear hb0 hx0 hz;by_cases hc:c=j
 ·have h3:A2=A:=by
   have h:=HA3.out;rw[if_pos hc] at h;injection h with h
   exact h.symm
  rw[h3] at HT;have hlj:l.length=j:=(by omega);subst hc;rw[hlj,Nat.sub_self] at HT;clear HA3;rw[hlj] at hm ⊢;clear hlj hl1 hjl hjI HJ;clear h3
  go_wp2_with (first|(go_at_call 33;refine HT.out.mono ?_;intro e w1 hT1;obtain⟨A5,c5,B5,d5,ls,ns,rfl,hg,hN,hb⟩:=hT1.own;have HG:=Lh hg;have HN:=Lh hN;have HB:=Lh hb;have x0:=(HX0.out.to hb).cell 0 rfl;have x1:=(HX0.out.to hb).cell 1 rfl;have f0:=(HX0.out.to hb).fz 0;have f1:=(HX0.out.to hb).fz 1;clear hg hN hb hT1)|fail)
  refine bodyPost_ret (v:=.agg #[.slice A5 ls.length c5,.slice B5 ns.length d5]) (QbI Tryd.results15 _ _ w.heap.size _ [.slice A5 ls.length c5,.slice B5 ns.length d5] _ rfl (by simpa using((HX0.out.to HB.out).set 0 (.slice A5 ls.length c5)).set 1 (.slice B5 ns.length d5)) Tryd.underlying38 rfl (by kernel_rfl)) rfl ⟨A5,c5,B5,d5,ls,ns,rfl,HG.out,?_,?_⟩
  ·have e1:∀g,w.heap.size<g→((w1.setCell ⟨w.heap.size,0,none⟩ (.slice A5 ls.length c5)).setCell ⟨w.heap.size,1,none⟩ (.slice B5 ns.length d5)).heap[g]? =w1.heap[g]? :=fun g hg=>(Qad _ _ 1 _ (by omega)).trans (Qad _ _ 0 _ (by omega))
   exact Rep.mono (Rep.keep HN.out (fun g (hg:w0.heap.size≤g) _=>e1 g (by have:=HZ.out;omega))) (fun g (hg:w0.heap.size≤g) _=>by have:=HZ.out;omega)
  ·exact((HB0.out.trans (HB.out.mono HB0.out.size)).setCell (p:=⟨w.heap.size,0,none⟩) nL _).setCell (p:=⟨w.heap.size,1,none⟩) nL _
 ·have h3:A2=A.map (·.add j):=by
   have h:=HA3.out;rw[if_neg hc] at h;injection h with h
   exact h.symm
  rw[h3] at HT;clear h3
  go_wp2_with (first|(go_at_call 33;refine HT.out.mono ?_;intro e w1 hT1;obtain⟨A5,c5,B5,d5,ls,ns,rfl,hg,hN,hb⟩:=hT1.own;have HG:=Lh hg;have HN:=Lh hN;have HB:=Lh hb;have x0:=(HX0.out.to hb).cell 0 rfl;have x1:=(HX0.out.to hb).cell 1 rfl;have f0:=(HX0.out.to hb).fz 0;have f1:=(HX0.out.to hb).fz 1;clear hg hN hb hT1)|fail)
  refine bodyPost_ret (v:=.agg #[.slice A5 ls.length c5,.slice B5 ns.length d5]) (QbI Tryd.results15 _ _ w.heap.size _ [.slice A5 ls.length c5,.slice B5 ns.length d5] _ rfl (by simpa using((HX0.out.to HB.out).set 0 (.slice A5 ls.length c5)).set 1 (.slice B5 ns.length d5)) Tryd.underlying38 rfl (by kernel_rfl)) rfl ⟨A5,c5,B5,d5,ls,ns,rfl,HG.out,?_,?_⟩
  ·have e1:∀g,w.heap.size<g→((w1.setCell ⟨w.heap.size,0,none⟩ (.slice A5 ls.length c5)).setCell ⟨w.heap.size,1,none⟩ (.slice B5 ns.length d5)).heap[g]? =w1.heap[g]? :=fun g hg=>(Qad _ _ 1 _ (by omega)).trans (Qad _ _ 0 _ (by omega))
   exact Rep.mono (Rep.keep HN.out (fun g (hg:w0.heap.size≤g) _=>e1 g (by have:=HZ.out;omega))) (fun g (hg:w0.heap.size≤g) _=>by have:=HZ.out;omega)
  ·exact((HB0.out.trans (HB.out.mono HB0.out.size)).setCell (p:=⟨w.heap.size,0,none⟩) nL _).setCell (p:=⟨w.heap.size,1,none⟩) nL _
def Qbh (i k:Nat):List Int:=(10-(i:Int))::(List.range k).map (fun j:Nat=>30+7*(i:Int)-3*(j:Int))
theorem versG_succ (i k:Nat):Qbh i k++[30+7*(i:Int)-3*(k:Int)]=Qbh i (k+1):=by
 unfold Qbh;rw[List.range_succ,List.map_append];rfl
theorem QaR (i k:Nat):(Qbh i k).length=k+1:=by unfold Qbh;simp
def GSect (f i:Nat)(s:SectP):Prop:=
 (∃d:Nat,d≤1∧s.entry=2*(i:Int)+d)∧s.frozen=decide (i<f)∧∃j,j≤2∧(s.frozen=false→j=0)∧s.vers=Qbh i j∧s.texts.length=j+1∧∀t∈s.texts,GText t.a t.b
structure GBk (m h:Int)(l:List SectP):Prop where
 m1:500≤m
 m2:m≤1080
 h1:4≤h
 h2:h≤8
 n:l.length≤4
 s:∃f,∀i (hi:i<l.length),GSect f i l[i]
structure OB (w:World)(m h:Int)(f k:Nat)(v:Value)(l:List SectP)(W:World):Prop where
 r:ABox W w.heap.size 25 [.int .i64 0,.int .i64 0,.slice none 0 0]
 b:ABox W (w.heap.size+1) 25 [.int .i64 m,.int .i64 h,v]
 o:OwnP W w.heap.size 34 v l (fun i=>w.heap.size+1<i)
 n:l.length=k
 g:∀i (hi:i<l.length),GSect f i l[i]
 bl:Below w.heap.size w W
structure IB (B X:Nat)(wr:World)(e:Int)(fr:Bool)(vv vt:Value)(vs:List Int)(ts:List TextP)(W:World):Prop where
 s:ABox W X 34 [.int .i64 e,.bool fr,vv,vt]
 sx:B≤X
 v:Own W B 3 vv vs
 vx:vv.ownBlock≠some X
 t:OwnP W B 38 vt ts (fun b=>B≤b∧b≠X∧some b≠vv.ownBlock)
 g:∀t∈ts,GText t.a t.b
 bl:Below B wr W
section
variable {w W W' wr:World} {m h:Int} {f k:Nat} {v:Value} {l:List SectP}
theorem OB.to (H:OB w m h f k v l W)(hb:Below W.heap.size W W'):OB w m h f k v l W':=⟨H.r.to hb,H.b.to hb,H.o.below hb,H.n,H.g,H.bl.trans (hb.mono H.bl.size)⟩
theorem OB.lt (H:OB w m h f k v l W):w.heap.size+1<W.heap.size:=by have:=H.b.lt;omega
variable {B X:Nat} {e:Int} {fr:Bool} {vv vt:Value} {vs:List Int} {ts:List TextP}
theorem IB.to (H:IB B X wr e fr vv vt vs ts W)(hB:B≤W.heap.size)(hb:Below W.heap.size W W'):IB B X wr e fr vv vt vs ts W':=⟨H.s.to hb,H.sx,H.v.below hb,H.vx,H.t.below hb,H.g,H.bl.trans (hb.mono hB)⟩
end
theorem IB.secV {B X:Nat}{wr W W1 W':World}{e:Int}{fr:Bool}{vv vt:Value}{vs:List Int}{ts:List TextP}(H:IB B X wr e fr vv vt vs ts W)(h1:Below W.heap.size W W1)(hg:W1.grownBy W' vv.ownBlock):ABox W' X 34 [.int .i64 e,.bool fr,vv,vt]:=
 (hg.block X (by have:=h1.size;have:=H.s.lt;omega) (fun e=>H.vx e.symm)).trans (H.s.to h1)
theorem IB.secT {B X:Nat}{wr W W1 W':World}{e:Int}{fr:Bool}{vv vt:Value}{vs:List Int}{ts:List TextP}(H:IB B X wr e fr vv vt vs ts W)(h1:Below W.heap.size W W1)(hg:W1.grownBy W' vt.ownBlock):ABox W' X 34 [.int .i64 e,.bool fr,vv,vt]:=
 (hg.block X (by have:=h1.size;have:=H.s.lt;omega) (fun e=>(H.t.at_ X e.symm).2.1 rfl)).trans (H.s.to h1)
theorem IB.pushV {B X:Nat}{wr W W1 W':World}{e:Int}{fr:Bool}{vv vt v':Value}{vs vs':List Int}{ts:List TextP}{g:Nat}(H:IB B X wr e fr vv vt vs ts W)(hB:B≤W.heap.size)(h1:Below W.heap.size W W1) (hown:Own W' B 3 v' vs') (hg:W1.grownBy W' vv.ownBlock) (hat:vv.ownBlock=some g∨g=W1.heap.size) (hv:v'.ownBlock=some g):
 IB B X wr e fr v' vt vs' ts (W'.setCell ⟨X,2,none⟩ v'):=by
 have hX:=H.s.lt;have hz:=h1.size
 have hgx:g≠X:=fun he=>by
  rcases hat with h|h
  ·exact H.vx (he▸h)
  ·omega
 have hs:ABox W' X 34 [.int .i64 e,.bool fr,vv,vt]:=(hg.block X (by have:=h1.size;omega) (fun e=>H.vx e.symm)).trans (H.s.to h1);refine⟨?_,H.sx,?_,by rw[hv];intro e;injection e with e;exact hgx e,?_,H.g,?_⟩
 ·have:=hs.set 2 v';simpa using this
 ·refine hown.at_blocks fun b _ hb=>Qad _ _ _ _ (fun e=>?_)
  rw[hv] at hb;injection hb with hb;omega
 ·refine OwnP.set ?_ _ _ _ (fun i hi=>hi.2.1);refine(((H.t.below h1).mono (Q:=fun b=>(B≤b∧b≠X∧some b≠vv.ownBlock)∧some b≠some g) (fun i hi hl=>⟨hi,fun e=>?_⟩)).grown hg (fun i hi=>hi.1.2.2)).mono (fun i hi _=>⟨hi.1.1,hi.1.2.1,by rw[hv];exact hi.2⟩);injection e with e
  rcases hat with h|h
  ·exact hi.2.2 (by rw[h,e])
  ·omega
 ·exact((H.bl.trans (h1.mono hB)).grown hg (by omega) (fun k hk=>(H.v.lt k hk).1)).setCell (p:=⟨X,2,none⟩) H.sx _
theorem IB.pushT {B X:Nat}{wr W W1 W':World}{e:Int}{fr:Bool}{vv vt v':Value}{vs:List Int}{ts ts':List TextP}{g:Nat}(H:IB B X wr e fr vv vt vs ts W)(hB:B≤W.heap.size)(h1:Below W.heap.size W W1) (hown:Own W' B 38 v' (ts'.map (Av.mk:TextP→Av TextP (fun b=>B≤b∧b≠X∧some b≠vv.ownBlock)))) (hg:W1.grownBy W' vt.ownBlock) (hat:vt.ownBlock=some g∨g=W1.heap.size) (hv:v'.ownBlock=some g) (hgt:∀t∈ts',GText t.a t.b):
 IB B X wr e fr vv v' vs ts' (W'.setCell ⟨X,3,none⟩ v'):=by
 have hX:=H.s.lt;have hz:=h1.size;have htx:vt.ownBlock≠some X:=fun he=>(H.t.at_ X he).2.1 rfl
 have hgx:g≠X:=fun he=>by
  rcases hat with h|h
  ·exact htx (he▸h)
  ·omega
 have hgv:some g≠vv.ownBlock:=fun he=>by
  rcases hat with h|h
  ·exact(H.t.at_ g h).2.2 he
  ·have:=(H.v.lt g he.symm).2;omega
 have hs:ABox W' X 34 [.int .i64 e,.bool fr,vv,vt]:=(hg.block X (by have:=h1.size;omega) (fun e=>htx e.symm)).trans (H.s.to h1);refine⟨?_,H.sx,?_,H.vx,?_,hgt,?_⟩
 ·have:=hs.set 3 v';simpa using this
 ·refine((H.v.below h1).at_blocks (w':=W') fun b hb hv'=>hg.block b hb (fun e=>?_)).at_blocks fun b _ hb=>Qad _ _ _ _ (fun e=>H.vx (by rw[hb,e]))
  exact(H.t.at_ b e.symm).2.2 hv'.symm
 ·refine OwnP.set (P:=fun b=>B≤b∧b≠X∧some b≠vv.ownBlock) ?_ _ _ _ (fun i hi=>hi.2.1);have hgB:B≤g:=by
   rcases hat with h|h
   ·exact(H.t.lt g h).1
   ·omega
  exact OwnP.ofBd hown (fun k hk=>by rw[hv] at hk;injection hk with hk;subst hk;exact⟨hgB,hgx,hgv⟩)
 ·exact((H.bl.trans (h1.mono hB)).grown hg (by omega) (fun k hk=>(H.t.lt k hk).1)).setCell (p:=⟨X,3,none⟩) H.sx _
theorem Own.repB {α:Type}[Rep α][Flat α]{w:World}{base:Nat}{e:TypeId}{v:Value}{l:List α}{S:Nat→Prop}(h:Own w base e v l)(hl:l.length<9223372036854775808)(hS:∀b,v.ownBlock=some b→S b):Rep.R w S [v] l:=by
 obtain⟨A,c,rfl,hs⟩:=h.slB;exact⟨A,c,rfl,hs.mono fun i hi _=>hS i hi,hl⟩
theorem IB.rep {B X Y:Nat}{wr W W2:World}{e:Int}{fr:Bool}{v vv vt:Value}{vs:List Int}{ts:List TextP}(H:IB B X wr e fr vv vt vs ts W)(hI:I64 e)(h2:Below W.heap.size W W2)(hY:Y<B)(hv:∀g,v.ownBlock=some g→g<B)(hvs:vs.length≤10)(hts:ts.length≤10):
 Rep.R W2 (fun b=>some b≠v.ownBlock∧Y<b) [.int .i64 e,.bool fr,vv,vt] (⟨e,fr,vs,ts⟩:SectP):=by
 refine⟨vv,vt,rfl,hI,(H.v.below h2).repB (by omega) (fun b hb=>?_),(H.t.below h2).rep (by omega) (fun b hb _=>?_)⟩
 ·have:=(H.v.lt b hb).1;exact⟨fun e=>by have:=hv b e.symm;omega,by omega⟩
 ·have:=hb.1;exact⟨fun e=>by have:=hv b e.symm;omega,by omega⟩
theorem OB.book {w W W1 W':World}{m h:Int}{f k:Nat}{v:Value}{l:List SectP}(H:OB w m h f k v l W)(h1:Below W.heap.size W W1)(hg:W1.grownBy W' v.ownBlock):ABox W' (w.heap.size+1) 25 [.int .i64 m,.int .i64 h,v]:=
 (hg.block _ (by have:=h1.size;have:=H.b.lt;omega) (fun e=>by have:=H.o.at_ _ e.symm;omega)).trans (H.b.to h1)
theorem OB.push {w W W1 W':World}{m h:Int}{f k g:Nat}{v v':Value}{l:List SectP}{s:SectP}(H:OB w m h f k v l W)(h1:Below W.heap.size W W1)(hs:GSect f k s) (hown:Own W' w.heap.size 34 v' ((l++[s]).map (Av.mk:SectP→Av SectP (fun i=>w.heap.size+1<i)))) (hg:W1.grownBy W' v.ownBlock) (hat:v.ownBlock=some g∨g=W1.heap.size) (hv:v'.ownBlock=some g):
 OB w m h f (k+1) v' (l++[s]) (W'.setCell ⟨w.heap.size+1,2,none⟩ v'):=by
 have hz:=h1.size;have hlt:=H.lt;have hgB:w.heap.size+1<g:=by
  rcases hat with e|e
  ·exact H.o.at_ g e
  ·omega
 refine⟨?_,?_,?_,by rw[qA,H.n];rfl,fun i hi=>?_,?_⟩
 ·refine ABox.other ?_ (by omega) _ _;exact(hg.block _ (by have:=H.r.lt;omega) (fun e=>by have:=H.o.at_ _ e.symm;omega)).trans (H.r.to h1)
 ·have:=(H.book h1 hg).set 2 v';simpa using this
 ·exact(OwnP.ofBd hown (fun k hk=>by rw[hv] at hk;injection hk with hk;subst hk;exact hgB)).set _ _ _ (fun i hi e=>by omega)
 ·by_cases hi2:i<l.length
  ·rw[List.getElem_append_left hi2];exact H.g i hi2
  ·obtain rfl:i=l.length:=by rw[qA,List.length_singleton] at hi;omega
   have e:(l++[s])[l.length]=s:=(by simp);rw[e,H.n];exact hs
 ·exact((H.bl.trans (h1.mono H.bl.size)).grown hg (by have:=H.bl.size;omega) (fun k hk=>by have:=H.o.at_ k hk;omega)).setCell (p:=⟨w.heap.size+1,2,none⟩) (by show w.heap.size≤w.heap.size+1;omega) _
theorem text_lit {w:World}{B:Nat}{P:Nat→Prop}{va vb:Value}{t:TextP}(hB:B≤w.heap.size)(h:Rep.R w P [va,vb] t)(hP:P w.heap.size):
 OwnP (w.alloc (.cells #[va,vb] 38)) B 38 (.slice (some ⟨w.heap.size,0,none⟩) 1 1) [t] (fun b=>P b∧b≤w.heap.size):=by
 refine⟨?_,fun g hg=>by cases hg;exact⟨hP,Nat.le_refl _⟩⟩;refine Own.lit (α:=Av TextP (fun b=>P b∧b≤w.heap.size)) w B _ #[va,vb] [⟨t⟩] hB (by simp[maxLen]) rfl (Rep.one h) (fun i hi=>?_);obtain rfl:i=0:=by simpa using hi
 show Rep.R _ _ [va,vb] t;exact Rep.mono (Rep.keep (Rep.mono (S':=fun b=>P b∧b<w.heap.size) h (fun b h1 h2=>⟨h1,h2⟩)) (Kept.all (bR.alloc nL _))) (fun b hb _=>⟨by omega,hb.1,by omega⟩)
theorem IB.start {wr w2 w3:World}{B:Nat}{e ver:Int}{fr:Bool}{va vb:Value}{t:TextP}(hB:B=wr.heap.size)(h2:Below B wr w2)(hz:w2.heap.size=B+2)(hr:IRow w2 B 3 [ver])(hv:I64 ver) (hs:ABox w2 (B+1) 34 [.int .i64 e,.bool fr,.slice (some ⟨B,0,none⟩) 1 1,.slice none 0 0]) (h3:Below w2.heap.size w2 w3) (ht:Rep.R w3 (fun b=>w2.heap.size≤b) [va,vb] t) (hg:GText t.a t.b):
 IB B (B+1) wr e fr (.slice (some ⟨B,0,none⟩) 1 1) (.slice (some ⟨w3.heap.size,0,none⟩) 1 1) [ver] [t] ((w3.alloc (.cells #[va,vb] 38)).setCell ⟨B+1,3,none⟩ (.slice (some ⟨w3.heap.size,0,none⟩) 1 1)):=by
 have hz3:=h3.size;have hb4:Below w3.heap.size w3 (w3.alloc (.cells #[va,vb] 38)):=bR.alloc nL _;have hb24:Below w2.heap.size w2 (w3.alloc (.cells #[va,vb] 38)):=h3.trans (hb4.mono hz3);refine⟨?_,by omega,?_,?_,?_,?_,?_⟩
 ·have:=(hs.to hb24).set 3 (.slice (some ⟨w3.heap.size,0,none⟩) 1 1);simpa using this
 ·exact(((hr.to hb24).other (by omega) _ _).own nL (fun x hx=>by rw[List.mem_singleton] at hx;subst hx;exact hv) (by simp[maxLen]))
 ·show some B≠some (B+1);simp
 ·have h5:=text_lit (B:=B) (P:=fun b=>w2.heap.size≤b) (by omega) ht hz3;refine(h5.mono (Q:=fun b=>B≤b∧b≠B+1∧some b≠(Value.slice (some ⟨B,0,none⟩) 1 1).ownBlock) (fun i hi _=>?_)).set _ _ _ (fun i hi=>hi.2.1);have h6:w2.heap.size≤i:=hi.1;refine⟨by omega,by omega,?_⟩;show some i≠some B;intro e;injection e with e;omega
 ·intro x hx;rw[List.mem_singleton] at hx;subst hx;exact hg
 ·exact(h2.trans (hb24.mono (by omega))).setCell (p:=⟨B+1,3,none⟩) (by show B≤B+1;omega) _
set_option maxRecDepth 100000 in
theorem gbook_any (A:Option Addr)(c:Nat)(l:List Int)(w:World)(hl:Sl w (fun b=>b<w.heap.size) A c l):
 Calls Tryd.prog 4 #[.slice A l.length c] w fun e w'=>∃m h A' c' ss,e=.returned (.agg #[.int .i64 m,.int .i64 h,.slice A' ss.length c'])∧GBk m h ss∧Sl w' (fun b=>w.heap.size≤b∧b<w'.heap.size) A' c' ss∧Below w.heap.size w w':=by
 have hb0:=(Below.refl w.heap.size w).alloc nL (.cells #[.int .i64 0,.int .i64 0,.slice none 0 0] 25);have hx0:ABox (w.alloc (.cells #[.int .i64 0,.int .i64 0,.slice none 0 0] 25)) w.heap.size 25 [.int .i64 0,.int .i64 0,.slice none 0 0]:=heap_alloc_new w _;have hz:(w.alloc (.cells #[.int .i64 0,.int .i64 0,.slice none 0 0] 25)).heap.size=w.heap.size+1:=by simp
 have hl0:=hl.to hb0;have HL:=Lh hl;go_enter Tryd.func4,Tryd.ntmps4;go_upto_region 1 with(fail);generalize w.alloc (.cells #[.int .i64 0,.int .i64 0,.slice none 0 0] 25)=w0 at*;have HB0:=Lh hb0;have HX0:=Lh hx0;have HZ:=Lh hz;have HL0:=Lh hl0;clear hb0 hx0 hz hl0 hl;go_wp2_with fail;refine(QaX A c l 0 30 w0 HL0.out (by decide) (by decide) (by decide)).mono ?_;rintro e _ ⟨pm,rfl,hpm,rfl⟩;have hpm2:(pm:Int)≤29:=by omega
 have hpm0:(0:Int)≤pm:=by omega
 clear hpm;go_wp2_with fail;refine(QaX A c l 1 5 w0 HL0.out (by decide) (by decide) (by decide)).mono ?_;rintro e _ ⟨ph,rfl,hph,rfl⟩;have hph2:(ph:Int)≤4:=by omega
 have hph0:(0:Int)≤ph:=by omega
 clear hph;go_upto_region 2 with(fail);obtain⟨m,hm⟩:∃m:Int,500+20*(pm:Int)=m:=⟨_,rfl⟩;obtain⟨h,hh⟩:∃h:Int,4+(ph:Int)=h:=⟨_,rfl⟩;rw[hm,hh];have HM:Hid ((500≤m∧m≤1080)∧4≤h∧h≤8):=Lh (by omega);clear hm hh hpm2 hpm0 hph2 hph0;obtain⟨w1,hw1⟩:∃w1,w0.alloc (.cells #[.int .i64 m,.int .i64 h,.slice none 0 0] 25)=w1:=⟨_,rfl⟩;have hb1:Below w0.heap.size w0 w1:=by rw[←hw1];exact bR.alloc nL _
 have hx1:ABox w1 (w.heap.size+1) 25 [.int .i64 m,.int .i64 h,.slice none 0 0]:=by rw[←hw1,←HZ.out];exact heap_alloc_new w0 _
 have HOB0:Hid (∀f,OB w m h f 0 (.slice none 0 0) [] w1):=Lh (fun f=>⟨HX0.out.to hb1,hx1,OwnP.nil _ _ _ _,rfl,fun i hi=>absurd hi (Nat.not_lt_zero _),HB0.out.trans (hb1.mono HB0.out.size)⟩);have HL1:=Lh (HL0.out.to hb1);have HE:Hid (w0.heap.size=w.heap.size+1):=HZ;rw[hw1,HZ.out];clear hw1 hb1 hx1;go_wp2_with fail;refine(QaX A c l 2 5 w1 HL1.out (by decide) (by decide) (by decide)).mono ?_;rintro e _ ⟨n,rfl,hn,rfl⟩;have hn2:(n:Int)≤4:=by omega
 have hn0:(0:Int)≤n:=by omega
 clear hn;go_wp2_with fail;refine(QaX A c l 3 ((n:Int)+1) w1 HL1.out (by omega) (by omega) (by decide)).mono ?_;rintro e _ ⟨f,rfl,hf,rfl⟩;have hf2:(f:Int)≤4:=by omega
 have hf0:(0:Int)≤f:=by omega
 clear hf;go_wp2_with fail;go_loopw [6] (fun i wr=>∃k:Nat,k≤n∧i=.int .i64 k∧∃v ss,OB w m h f k v ss wr) (fun i _=>n-(intOf i).toNat);(case atStart=>exact⟨0,by omega,rfl,_,_,HOB0.out f⟩);case round=>
  obtain⟨k,hk,rfl,v,ss,hob⟩:=hrel;have HOB:=Lh hob;clear hob;have hk2:(k:Int)≤4:=(by omega);have hk0:(0:Int)≤k:=(by omega);by_cases hlt:k<n
  ·have hkl:(k:Int)<n:=by omega
   have HLr:=Lh (HL.out.to HOB.out.bl);go_wp2_with fail;refine(QaX A c l (4+(k:Int)) 2 wr HLr.out (by decide) (by decide) (by omega)).mono ?_;rintro e _ ⟨d,rfl,hd,rfl⟩;have hd2:(d:Int)≤1:=(by omega);have hd0:(0:Int)≤d:=(by omega);clear hd;go_upto_region 8 with(fail);obtain⟨en,hen⟩:∃en:Int,2*(k:Int)+(d:Int)=en:=⟨_,rfl⟩;have HEN:Hid (∃d:Nat,d≤1∧en=2*(k:Int)+d):=Lh ⟨d,by omega,hen.symm⟩;obtain⟨ve,hve⟩:∃ve:Int,10-(k:Int)=ve:=⟨_,rfl⟩;have HI:Hid (I64 en∧I64 ve):=Lh ⟨⟨by omega,by omega⟩,⟨by omega,by omega⟩⟩;obtain⟨fr,hfr⟩:∃fr,decide (k<f)=fr:=⟨_,rfl⟩;have HVE:=Lh hve;have HFR:=Lh hfr;rw[hen,hve,hfr];clear hen hve hd2 hd0 hfr;obtain⟨B,hB⟩:∃B,wr.heap.size=B:=⟨_,rfl⟩;obtain⟨w2,hw2⟩:∃w2,(wr.alloc (.cells #[.int .i64 ve] 3)).alloc (.cells #[.int .i64 en,.bool fr,.slice (some ⟨B,0,none⟩) 1 1,.slice none 0 0] 34)=w2:=⟨_,rfl⟩;have hb2:Below B wr w2:=(by rw[←hw2];exact(bR.alloc (by omega) _).alloc (by simp;omega) _);have hr2:IRow w2 B 3 [ve]:=(by rw[←hw2];exact(Below.heap_alloc _ _ _ (by simp;omega)).trans (by rw[←hB];exact heap_alloc_new wr _));have hs2:ABox w2 (B+1) 34 [.int .i64 en,.bool fr,.slice (some ⟨B,0,none⟩) 1 1,.slice none 0 0]:=(by rw[←hw2];exact QaU (by simp;omega));have hz2:w2.heap.size=B+2:=(by rw[←hw2];simp;omega);rw[hB,hw2];have HBw:=Lh hB;have HB2:=Lh hb2;have HR2:=Lh hr2;have HS2:=Lh hs2;have HZ2:=Lh hz2;have HOB2:=Lh (HOB.out.to (hB▸hb2));have hT:=rtext_any A c l (12+6*k) (by omega) w2 (HL.out.to HOB2.out.bl);rw[show((12+6*k:Nat):Int)=12+6*(k:Int) by omega] at hT;have HT:=Lh hT;clear hT hw2 hb2 hr2 hs2 hz2 hB
   go_upto_region 9 with(first|(go_at_call 15;refine HT.out.mono ?_;rintro e w3 ⟨A5,c5,B5,d5,ls,ns,rfl,hg,hN,hb⟩;have HIB:=Lh (IB.start HBw.out.symm HB2.out HZ2.out HR2.out HI.out.2 HS2.out hb hN hg);have HB3:=Lh hb;have hx:=((HS2.out.to hb).to ((Below.refl _ w3).alloc nL (.cells #[.slice A5 ls.length c5,.slice B5 ns.length d5] 38)));have x3:=hx.cell 3 rfl;have f3:=hx.fz 3;clear hg hN hb hx)|fail)
   have HIB0:Hid (∃vv vt ts,IB B (B+1) wr en fr vv vt (Qbh k 0) ts ((w3.alloc (.cells #[.slice A5 ls.length c5,.slice B5 ns.length d5] 38)).setCell ⟨B+1,3,none⟩ (.slice (some ⟨w3.heap.size,0,none⟩) 1 1))∧ts.length=0+1):=Lh ⟨_,_,_,by
    have h:=HIB.out
    rw[show[ve]=Qbh k 0 by rw[←HVE.out];rfl] at h
    exact h,rfl⟩
   clear HIB x3 f3 HR2 HS2 HB2 HZ2 HT HB3;generalize (w3.alloc (.cells #[.slice A5 ls.length c5,.slice B5 ns.length d5] 38)).setCell ⟨B+1,3,none⟩ (.slice (some ⟨w3.heap.size,0,none⟩) 1 1)=w4 at*;go_wp2_with fail;obtain⟨wo,rfl⟩:∃wo:World,wo=wr:=⟨_,rfl⟩;go_loopw [8] (fun j wx=>∃q:Nat,q≤2∧j=.int .i64 q∧(fr=false→q=0)∧∃vv vt ts,IB B (B+1) wo en fr vv vt (Qbh k q) ts wx∧ts.length=q+1) (fun j _=>3-(intOf j).toNat);(case atStart=>exact⟨0,by omega,rfl,fun _=>rfl,HIB0.out⟩);case round=>
    obtain⟨q,hq,rfl,hfq,vv,vt,ts,hib,htn⟩:=hrel;have HIB:=Lh hib;have HFQ:=Lh hfq;have HTN:=Lh htn;have hq2:(q:Int)≤2:=(by omega);have hq0:(0:Int)≤q:=(by omega);have i1:=hib.s.cell 1 rfl;have hBB:B≤wr.heap.size:=(by have:=hib.s.lt;omega);have HOBx:Hid (OB w m h f k v ss wr):=Lh (HOB.out.to (HBw.out▸hib.bl));clear hib hfq htn;go_wp2_with fail;refine(QaX A c l (8+(k:Int)) 3 wr (HL.out.to HOBx.out.bl) (by decide) (by decide) (by omega)).mono ?_;rintro e _ ⟨r,rfl,hr,rfl⟩;by_cases hqr:q<r∧fr=true
    ·obtain⟨hqr,hft⟩:=hqr;have hqr2:(q:Int)<r:=(by omega);have HFT:=Lh hft;subst hft;have hq1:(q:Int)≤1:=(by omega);have hq1n:q≤1:=(by omega);clear hr;go_upto_region 12 with(fail);obtain⟨A6,c6,hv6,-,-⟩:=HIB.out.v.form;obtain⟨A7,c7,hv7,-,-⟩:=HIB.out.t.len;subst hv6 hv7;rw[QaR,HTN.out] at HIB;have i2:=HIB.out.s.cell 2 rfl;obtain⟨vn,hvn⟩:∃vn:Int,30+7*(k:Int)-3*(q:Int)=vn:=⟨_,rfl⟩;have HVN:=Lh hvn;have HIN:Hid (I64 vn):=Lh ⟨by omega,by omega⟩;have hln:(Qbh k q).length=q+1:=QaR k q;obtain⟨vs,hvs⟩:∃vs,Qbh k q=vs:=⟨_,rfl⟩;have HVS:=Lh hvs;rw[hvs] at HIB hln;have hba:Below wr.heap.size wr (wr.alloc (.cells #[.int .i64 vn] 3)):=bR.alloc nL _;have HBA:=Lh hba;have hown6:Own wr B 3 (.slice A6 vs.length c6) vs:=(by rw[hln];exact HIB.out.v);rw[←hln] at i2;have HIB6:Hid ((Value.slice A6 vs.length c6).ownBlock=(Value.slice A6 (q+1) c6).ownBlock):=Lh (by rw[hln]);have HLN:=Lh hln;have hvl:vs.length≤10:=(by omega);clear hvs hba hln i1
     go_upto_region 13 with(first|(at_builtin;refine Qan (α:=Int) _ rfl (.tmp 62) (.tmp 69) 22 rfl B 3 (.int .i64 0) 8 Tryd.underlying22 QaY rfl (by decide) _ vs rfl (hown6.alloc _) wr.heap.size _ vn (0,0) 3 rfl (heap_alloc_new wr _) ⟨rfl,HIN.out⟩ (by omega) (by omega) (by first|omega|(simp;done)|(simp;omega)) _ rfl ?_;intro g cap w5 hown5 hg5 hat5 hlt5;have hs5:=HIB.out.secV HBA.out (HIB6.out▸hg5);have x2:=hs5.cell 2 rfl;have f2:=hs5.fz 2;have HIB5:=Lh (HIB.out.pushV (v':=.slice (some ⟨g,0,none⟩) (vs.length+1) cap) hBB HBA.out hown5 (HIB6.out▸hg5) (HIB6.out▸hat5) rfl);clear hs5 hown5 hg5 hat5 hlt5)|fail)
     obtain⟨W8,hW8⟩:∃W8,(w5.setCell ⟨B+1,2,none⟩ (.slice (some ⟨g,0,none⟩) (vs.length+1) cap)).drew=W8:=⟨_,rfl⟩
     have HIB8:Hid (IB B (B+1) wo en true (.slice (some ⟨g,0,none⟩) (vs.length+1) cap) (.slice A7 (q+1) c7) (vs++[vn]) ts W8):=Lh (by
      rw[←hW8]
      exact HIB5.out.to (by have:=HIB5.out.s.lt;omega) bR.drew)
     clear HIB5 x2 f2;refine Qay (fun w'=>w'.cell? ⟨B+1,3,none⟩=some (.slice A7 (q+1) c7)) (fun i=>decide (i<13)) (by kernel_rfl) ?_;rw[hW8];clear hW8;have hS0:W8.cell? ⟨B+1,3,none⟩=some (.slice A7 (q+1) c7):=HIB8.out.s.cell 3 rfl;have HB8:Hid (B+1<W8.heap.size):=Lh HIB8.out.s.lt;have hT2:=rtext_any A c l (15+6*k+7*q) (by omega) W8 (HL.out.to ((HOB.out.to (HBw.out▸HIB8.out.bl)).bl));rw[show((15+6*k+7*q:Nat):Int)=15+6*(k:Int)+7*(q:Int) by omega] at hT2;have HT2:=Lh hT2;have hwa:IntKind.i64.wrap (6*(k:Int))=6*(k:Int):=(by rw[IntWalk.i64_in _ (by omega)]);have hwb:IntKind.i64.wrap (15+6*(k:Int))=15+6*(k:Int):=(by rw[IntWalk.i64_in _ (by omega)]);have hwc:IntKind.i64.wrap (7*(q:Int))=7*(q:Int):=(by rw[IntWalk.i64_in _ (by omega)]);have hwd:IntKind.i64.wrap (15+6*(k:Int)+7*(q:Int))=15+6*(k:Int)+7*(q:Int):=(by rw[IntWalk.i64_in _ (by omega)]);clear hT2;refine tE 0 ⟨some 72,Op.fieldAddr 34 (.tmp 7) 3,0,_,_,_⟩ ?_ rfl ?zq0 (hS0) ?zq1;(case zq0=>intro _ s;clear s;go_simp;(try with_reducible rfl));(all_goals try go_frame);refine tE 1 ⟨some 73,Op.load 32 (.tmp 72),32,_,_,_⟩ ?_ rfl ?zq2 (hS0) ?zq3;(case zq2=>intro wS hSw;(have hq9:=hSw);clear hSw;go_simp;(try with_reducible rfl));(all_goals try go_frame);refine tE 2 ⟨some 74,Op.move (.tmp 0),22,_,_,_⟩ ?_ rfl ?zq4 (hS0) ?zq5;(case zq4=>intro _ s;clear s;go_simp;(try with_reducible rfl));(all_goals try go_frame);refine tE 3 ⟨some 75,Op.move (.tmp 6),3,_,_,_⟩ ?_ rfl ?zq6 (hS0) ?zq7;(case zq6=>intro _ s;clear s;go_simp;(try with_reducible rfl));(all_goals try go_frame);refine tE 4 ⟨some 76,Op.binOp BinOp.mul 3 (Operand.const (Value.int IntKind.i64 6)) (.tmp 75) 3,3,_,_,_⟩ ?_ rfl ?zq8 (hS0) ?zq9;(case zq8=>intro _ s;clear s;go_simp;(try with_reducible rfl));(all_goals try go_frame);refine tE 5 ⟨some 77,Op.binOp BinOp.add 3 (Operand.const (Value.int IntKind.i64 15)) (.tmp 76) 3,3,_,_,_⟩ ?_ rfl ?zq10 (hS0) ?zq11;(case zq10=>intro _ s;clear s;go_simp;(try with_reducible rfl));(all_goals try go_frame);refine tE 6 ⟨some 78,Op.move (.tmp 8),3,_,_,_⟩ ?_ rfl ?zq12 (hS0) ?zq13;(case zq12=>intro _ s;clear s;go_simp;(try with_reducible rfl));(all_goals try go_frame);refine tE 7 ⟨some 79,Op.binOp BinOp.mul 3 (Operand.const (Value.int IntKind.i64 7)) (.tmp 78) 3,3,_,_,_⟩ ?_ rfl ?zq14 (hS0) ?zq15;(case zq14=>intro _ s;clear s;go_simp;(try with_reducible rfl));(all_goals try go_frame);refine tE 8 ⟨some 80,Op.binOp BinOp.add 3 (.tmp 77) (.tmp 79) 3,3,_,_,_⟩ ?_ rfl ?zq16 (hS0) ?zq17;(case zq16=>intro _ s;clear s;go_simp;(try with_reducible rfl));(all_goals try go_frame);refine tD 9 ⟨some 81,Op.call {callee:=Callee.value (Operand.func 15),args:=#[Operand.tmp 74,Operand.tmp 80],argTypes:=#[22,3]},38,_,_,_⟩ rfl fun K hK=>?_
     go_simp;go_at_call 15;refine HT2.out.mono ?_;rintro e w6 ⟨A8,c8,B8,d8,ls2,ns2,rfl,hg2,hN2,hb6⟩;go_simp;have hS6:w6.cell? ⟨B+1,3,none⟩=some (.slice A7 (q+1) c7):=((HIB8.out.s.to hb6).cell 3 rfl);have HB6:=Lh hb6;have HG2:=Lh hg2;have HN2:=Lh hN2;clear hb6 hg2 hN2;refine hK _ _ (fun _=>?_) ?_
     ·exact hS6
     clear hK K;(try go_frame);refine tD 10 ⟨some 82,Op.buildSlice 32 1 #[(0,.tmp 81)],32,_,_,_⟩ rfl fun K hK=>?_
     go_simp;have hb7:Below w6.heap.size w6 (w6.alloc (.cells #[.slice A8 ls2.length c8,.slice B8 ns2.length d8] 38)):=bR.alloc nL _;have HB7:=Lh (HB6.out.trans (hb7.mono HB6.out.size));have hl7:=heap_alloc_new w6 (.cells #[.slice A8 ls2.length c8,.slice B8 ns2.length d8] 38);have HN7:=Lh (Rep.keep (Rep.mono (S':=fun b=>W8.heap.size≤b) HN2.out (fun _ h _=>h)) (Kept.all hb7));have hS7:(w6.alloc (.cells #[.slice A8 ls2.length c8,.slice B8 ns2.length d8] 38)).cell? ⟨B+1,3,none⟩=some (.slice A7 (q+1) c7):=((HIB8.out.s.to HB7.out).cell 3 rfl);have HL7:=Lh hl7;obtain⟨b7,hbe7⟩:∃b7,w6.heap.size=b7:=⟨_,rfl⟩;rw[hbe7] at HL7 ⊢;clear hb7 hl7 hS6 HN2 HB6 hbe7;generalize w6.alloc (.cells #[.slice A8 ls2.length c8,.slice B8 ns2.length d8] 38)=w7 at*;refine hK _ _ (fun _=>?_) ?_
     ·exact hS7
     clear hK K;(try go_frame);refine tD 11 ⟨some 83,Op.call {callee:=Callee.builtin Builtin.append,args:=#[Operand.tmp 73,Operand.tmp 82],argTypes:=#[32,32]},32,_,_,_⟩ rfl fun K hK=>?_
     have hvt:(Value.slice A7 (q+1) c7).ownBlock=(Value.slice A7 ts.length c7).ownBlock:=by rw[HTN.out]
     have hown7:OwnP w7 B 38 (.slice A7 ts.length c7) ts (fun b=>B≤b∧b≠B+1∧some b≠(Value.slice (some ⟨g,0,none⟩) (vs.length+1) cap).ownBlock):=(by rw[HTN.out];exact HIB8.out.t.below HB7.out);rw[←HTN.out];have htl:ts.length≤10:=by rw[HTN.out];omega
     refine wp_push w7 (α:=Av TextP (fun b=>B≤b∧b≠B+1∧some b≠(Value.slice (some ⟨g,0,none⟩) (vs.length+1) cap).ownBlock)) (.tmp 73) (.tmp 82) 32 rfl B 38 (.agg #[.slice none 0 0,.slice none 0 0]) 48 Tryd.underlying32 text_info rfl (show 0<2 by decide) (.slice A7 ts.length c7) (ts.map Av.mk) rfl hown7.own b7 _ ⟨⟨ls2,ns2⟩⟩ (0,0) _ rfl HL7.out (show Rep.R w7 (fun b=>some b≠(Value.slice A7 ts.length c7).ownBlock∧(B≤b∧b≠B+1∧some b≠(Value.slice (some ⟨g,0,none⟩) (vs.length+1) cap).ownBlock)) [.slice A8 ls2.length c8,.slice B8 ns2.length d8] (⟨ls2,ns2⟩:TextP) from Rep.mono HN7.out (fun i (hi:W8.heap.size≤i) _=>⟨fun e=>by have:=(HIB8.out.t.lt i (by rw[hvt];exact e.symm)).2;omega,by have:=HB8.out;omega,by have:=HB8.out;omega,fun e=>by have:=(HIB8.out.v.lt i e.symm).2;omega⟩)) (by rw[qM];omega) (by rw[qM];omega) (by have:=HB7.out.size;have:=HB8.out;omega) _ rfl ?_;rw[qM];intro g9 cap9 w9 ho9 hg9 hat9 hlt9;have hs9:=HIB8.out.secT HB7.out (hvt▸hg9);have x3:=hs9.cell 3 rfl;have f3:=hs9.fz 3;have hS9:w9.cell? ⟨B+1,3,none⟩=some (.slice A7 (q+1) c7):=x3;have HIB9:=Lh (HIB8.out.pushT (v':=.slice (some ⟨g9,0,none⟩) (ts.length+1) cap9) (ts':=ts++[⟨ls2,ns2⟩]) (by have:=HB8.out;omega) HB7.out (by rw[List.map_append];exact ho9) (hvt▸hg9) (hvt▸hat9) rfl (fun t ht=>(List.mem_append.1 ht).elim (HIB8.out.g t) (fun h=>by rw[List.mem_singleton] at h;subst h;exact HG2.out)));clear hs9 ho9 hg9 hat9 hlt9 hS7 hown7;refine hK _ _ (fun _=>?_) ?_
     ·exact hS9
     clear hK K;(try go_frame);refine tE 12 ⟨some 84,Op.fieldAddr 34 (.tmp 7) 3,0,_,_,_⟩ ?_ rfl ?zq18 (hS9) ?zq19;(case zq18=>intro _ s;clear s;go_simp;(try with_reducible rfl));(all_goals try go_frame);refine tD 13 ⟨none,Op.store 32 (.tmp 84) (.tmp 83),0,_,_,_⟩ rfl fun K hK=>?_
     clear hS9;go_simp;refine hK _ _ (fun h=>absurd h (by decide)) ?_;clear hK K;(try simp only[Act.put]);refine Qam (by kernel_rfl) ?_ _;unfold Exit.then;clear x3 f3;go_wp2_with fail;go_roundw
     case rel=>exact⟨q+1,by omega,by go_num,fun h=>absurd h (by decide),_,_,_,by
      have h:=HIB9.out
      rw[←HVS.out,←HVN.out,versG_succ] at h
      exact h,by rw[qA,HTN.out];rfl⟩
     case measure=>(first|(simp[intOf];done)|(simp[intOf];omega))
    ·have HNQ:=Lh hqr;by_cases hqr1:q<r
     ·have hft:fr=false:=by
       cases hf:fr with
       |false=>rfl
       |true=>exact absurd ⟨hqr1,hf⟩ HNQ.out
      have hqr2:(q:Int)<r:=(by omega);clear hqr;subst hft;obtain⟨A6,c6,hv6,-,-⟩:=HIB.out.v.form;obtain⟨A7,c7,hv7,-,-⟩:=HIB.out.t.len;subst hv6 hv7;obtain⟨A9,c9,hv9,-,-⟩:=HOBx.out.o.len;subst hv9;have hln:(Qbh k q).length=q+1:=QaR k q;have HGS:Hid (GSect f k ⟨en,false,Qbh k q,ts⟩):=Lh ⟨HEN.out,HFR.out.symm,q,hq,HFQ.out,rfl,HTN.out,HIB.out.g⟩;obtain⟨vs,hvs⟩:∃vs,Qbh k q=vs:=⟨_,rfl⟩;rw[hvs] at HIB hln HGS;have hvl:vs.length≤10:=(by omega);have htl:ts.length≤10:=(by have:=HTN.out;omega);have hsl:ss.length≤10:=(by have:=HOBx.out.n;omega);have i0:=HIB.out.s.cell 0 rfl;have i2:=HIB.out.s.cell 2 rfl;have i3:=HIB.out.s.cell 3 rfl;have b2:=HOBx.out.b.cell 2 rfl;have hba:Below wr.heap.size wr (wr.alloc (.cells #[.int .i64 en,.bool false,.slice A6 vs.length c6,.slice A7 ts.length c7] 34)):=bR.alloc nL _;have HBA:=Lh hba;have HRE:=Lh (HIB.out.rep (v:=.slice A9 ss.length c9) (Y:=w.heap.size+1) HI.out.1 hba (by have:=HOB.out.lt;have:=HBw.out;omega) (fun g hg=>by have:=(HOB.out.o.lt g hg).2;have:=HBw.out;omega) hvl htl);clear hvs hln hba HIB HFQ HTN hq2 hq0
      go_upto_region 6 with(first|(at_builtin;refine Qan (α:=Av SectP (fun i=>w.heap.size+1<i)) _ rfl (.tmp 86) (.tmp 88) 23 rfl w.heap.size 34 (.agg #[.int .i64 0,.bool false,.slice none 0 0,.slice none 0 0]) 64 Tryd.underlying23 sect_info rfl (show 0<4 by decide) _ (ss.map Av.mk) rfl (HOBx.out.o.own.alloc _) wr.heap.size _ ⟨⟨en,false,vs,ts⟩⟩ (0,0) 34 rfl (heap_alloc_new wr _) HRE.out (by rw[qM];omega) (by rw[qM];omega) (by have:=HOBx.out.bl.size;simp;omega) _ rfl ?_;rw[qM];intro g cap w5 hown5 hg5 hat5 hlt5;have hs5:=HOBx.out.book HBA.out hg5;have x2:=hs5.cell 2 rfl;have f2:=hs5.fz 2;have HOB5:=Lh (HOBx.out.push (v':=.slice (some ⟨g,0,none⟩) (ss.length+1) cap) HBA.out HGS.out (by rw[List.map_append];exact hown5) hg5 hat5 rfl);clear hs5 hown5 hg5 hat5 hlt5)|fail)
      clear x2 f2 i0 i1 i2 i3 b2;go_wp2_with fail;go_roundw;(case rel=>exact⟨k+1,by omega,by go_num,_,_,HOB5.out⟩);case measure=>(first|(simp[intOf];done)|(simp[intOf];omega))
     ·have hqr2:¬(q:Int)<r:=by omega
      clear hqr;obtain⟨A6,c6,hv6,-,-⟩:=HIB.out.v.form;obtain⟨A7,c7,hv7,-,-⟩:=HIB.out.t.len;subst hv6 hv7;obtain⟨A9,c9,hv9,-,-⟩:=HOBx.out.o.len;subst hv9;have hln:(Qbh k q).length=q+1:=QaR k q;have HGS:Hid (GSect f k ⟨en,fr,Qbh k q,ts⟩):=Lh ⟨HEN.out,HFR.out.symm,q,hq,HFQ.out,rfl,HTN.out,HIB.out.g⟩;obtain⟨vs,hvs⟩:∃vs,Qbh k q=vs:=⟨_,rfl⟩;rw[hvs] at HIB hln HGS;have hvl:vs.length≤10:=(by omega);have htl:ts.length≤10:=(by have:=HTN.out;omega);have hsl:ss.length≤10:=(by have:=HOBx.out.n;omega);have i0:=HIB.out.s.cell 0 rfl;have i2:=HIB.out.s.cell 2 rfl;have i3:=HIB.out.s.cell 3 rfl;have b2:=HOBx.out.b.cell 2 rfl;have hba:Below wr.heap.size wr (wr.alloc (.cells #[.int .i64 en,.bool fr,.slice A6 vs.length c6,.slice A7 ts.length c7] 34)):=bR.alloc nL _;have HBA:=Lh hba;have HRE:=Lh (HIB.out.rep (v:=.slice A9 ss.length c9) (Y:=w.heap.size+1) HI.out.1 hba (by have:=HOB.out.lt;have:=HBw.out;omega) (fun g hg=>by have:=(HOB.out.o.lt g hg).2;have:=HBw.out;omega) hvl htl);clear hvs hln hba HIB HFQ HTN hq2 hq0
      go_upto_region 6 with(first|(at_builtin;refine Qan (α:=Av SectP (fun i=>w.heap.size+1<i)) _ rfl (.tmp 86) (.tmp 88) 23 rfl w.heap.size 34 (.agg #[.int .i64 0,.bool false,.slice none 0 0,.slice none 0 0]) 64 Tryd.underlying23 sect_info rfl (show 0<4 by decide) _ (ss.map Av.mk) rfl (HOBx.out.o.own.alloc _) wr.heap.size _ ⟨⟨en,fr,vs,ts⟩⟩ (0,0) 34 rfl (heap_alloc_new wr _) HRE.out (by rw[qM];omega) (by rw[qM];omega) (by have:=HOBx.out.bl.size;simp;omega) _ rfl ?_;rw[qM];intro g cap w5 hown5 hg5 hat5 hlt5;have hs5:=HOBx.out.book HBA.out hg5;have x2:=hs5.cell 2 rfl;have f2:=hs5.fz 2;have HOB5:=Lh (HOBx.out.push (v':=.slice (some ⟨g,0,none⟩) (ss.length+1) cap) HBA.out HGS.out (by rw[List.map_append];exact hown5) hg5 hat5 rfl);clear hs5 hown5 hg5 hat5 hlt5)|fail)
      clear x2 f2 i0 i1 i2 i3 b2;go_wp2_with fail;go_roundw;(case rel=>exact⟨k+1,by omega,by go_num,_,_,HOB5.out⟩);case measure=>(first|(simp[intOf];done)|(simp[intOf];omega))
  ·obtain rfl:k=n:=by omega
   obtain⟨A9,c9,hv9,-,-⟩:=HOB.out.o.len;subst hv9;have b0:=HOB.out.b.cell 0 rfl;have b1:=HOB.out.b.cell 1 rfl;have b2:=HOB.out.b.cell 2 rfl;have r0:=HOB.out.r.cell 0 rfl;have r1:=HOB.out.r.cell 1 rfl;have r2:=HOB.out.r.cell 2 rfl;have f0:=HOB.out.r.fz 0;have f1:=HOB.out.r.fz 1;have f2:=HOB.out.r.fz 2;have hsl:ss.length≤10:=(by have:=HOB.out.n;omega);go_wp2_with fail
   refine bodyPost_ret (v:=.agg #[.int .i64 m,.int .i64 h,.slice A9 ss.length c9]) (QbI Tryd.results4 _ _ w.heap.size _ [.int .i64 m,.int .i64 h,.slice A9 ss.length c9] _ rfl (abox3 HOB.out.r _ _ _) Tryd.underlying25 rfl (by kernel_rfl)) rfl ⟨m,h,A9,c9,ss,rfl,⟨HM.out.1.1,HM.out.1.2,HM.out.2.1,HM.out.2.2,by have:=HOB.out.n;omega,f,HOB.out.g⟩,?_,below3 HOB.out.bl nL _ _ _⟩
   obtain⟨A10,c10,e10,hsl10⟩:=HOB.out.o.sl;cases e10;refine(hsl10.keep (w':=_) ?_ (by simp)).mono (fun i (hi:w.heap.size+1<i) hl=>⟨by omega,hl⟩);intro i (hi:w.heap.size+1<i) _;exact(Qad _ _ _ _ (by omega)).trans ((Qad _ _ _ _ (by omega)).trans (Qad _ _ _ _ (by omega)))
def LabOk (l:List PageP):Prop:=l.length≤100000∧∀p∈l,(1≤p.num∧p.num≤16384)∧0≤p.suf∧p.suf≤16384
instance (l:List PageP):Decidable (LabOk l):=by unfold LabOk;infer_instance
structure SM (w:World)(A:Option Addr)(c:Nat)(l:List SectP):Prop where
 t:Tabs w
 s:Sl w (fun b=>b<w.heap.size) A c l
theorem SM.to {w w':World}{A:Option Addr}{c:Nat}{l:List SectP}(h:SM w A c l)(hb:Below w.heap.size w w'):SM w' A c l:=⟨h.t.to hb,h.s.to hb⟩
def ExOk (l:List SectP):Prop:=Qdx l∧WfS l∧(Qaf 500 4 l).length≤100
instance (l:List (List Word)):Decidable (QcG l):=by unfold QcG;infer_instance
instance (s:SectP):Decidable (ShortX s):=by unfold ShortX;infer_instance
instance (l:List SectP):Decidable (Qdx l):=by unfold Qdx;infer_instance
instance (l:List SectP):Decidable (WfS l):=by unfold WfS;infer_instance
instance (l:List SectP):Decidable (ExOk l):=by unfold ExOk;infer_instance
theorem Qcm (a b:List Word):Qaw (a++b)=Qaw a++Qaw b:=by unfold Qaw;rw[List.filter_append,List.map_append]
theorem cut_drop {α:Type}(l:List α){i e:Nat}(h:i≤e)(he:e≤l.length):Qdm l i e++l.drop e=l.drop i:=by
 unfold Qdm;have h1:l.drop i=(l.take e++l.drop e).drop i:=by rw[List.take_append_drop]
 rw[h1,List.drop_append_of_le_length (by rw[qK];omega)]
def endsF:Nat→Nat→List Nat→Prop
 |i,n,[]=>i=n
 |i,n,e::es=>i<e∧e≤n∧endsF e n es
theorem Qc2 (es:List Nat)(n:Nat)(he:∀i,i<n→i<es.getD i 0∧es.getD i 0≤n):∀f i,n-i≤f→i≤n→endsF i n (chainE es n f i)
 |0,i,hf,hi=>by
  show i=n;omega
 |f+1,i,hf,hi=>by
  rw[chainE];split
  ·rename_i h;obtain⟨h1,h2⟩:=he i h;exact⟨h1,h2,Qc2 es n he f _ (by omega) h2⟩
  ·show i=n;omega
theorem Qbr {ws:List Word}{m:Int}(hr:Reg (Qab ws) m):endsF 0 ws.length (endsP (Qab ws) m):=by
 have hl:(Qab ws).length=ws.length:=by unfold Qab;simp
 have h:=Qc2 _ _ (endsP_he hr) (Qab ws).length 0 (by omega) (Nat.zero_le _);rw[←hl];exact h
theorem QbE (ws:List Word)(wd:List Int)(m first:Int):∀(es:List Nat) (i:Nat),endsF i ws.length es→(Qai ws wd m first i es).flatMap (·.notes)=Qaw (ws.drop i)
 |[],i,h=>by
  have:i=ws.length:=h;subst this;simp[Qai,Qaw]
 |e::es,i,h=>by
  obtain⟨h1,h2,h3⟩:=h;rw[Qai,List.flatMap_cons,QbE ws wd m first es e h3];show Qaw (Qdm ws i e)++Qaw (ws.drop e)=_;rw[←Qcm,cut_drop ws (Nat.le_of_lt h1) h2]
theorem setP_notes {ws:List Word}{m:Int}(first:Int)(hr:Reg (Qab ws) m):(setP ws first m).flatMap (·.notes)=Qaw ws:=by
 unfold setP;have h:=Qbr hr;rw[QbE ws _ m first _ 0 h,List.drop_zero]
theorem Qb0 {m:Int}:∀(a:List (List Word)) (first:Int),(∀p∈a,Reg (Qab p) m)→(Qaj m first a).flatten.flatMap (·.notes)=Qaw a.flatten
 |[],_,_=>rfl
 |p::a,first,h=>by
  rw[Qaj,List.flatten_cons,List.flatMap_append,setP_notes first (h p (by simp)),Qb0 a _ (fun q hq=>h q (by simp[hq])),List.flatten_cons,Qcm]
theorem notesP_seq (l:List Word):Qaw l=(QaM l).map (· - 1):=by
 induction l with
 |nil=>rfl
 |cons x l ih=>
  rw[seqOf_cons];by_cases hx:x.n=0
  ·rw[if_pos hx,←ih];unfold Qaw;rw[List.filter_cons_of_neg (by simp[hx])]
  ·rw[if_neg hx,List.map_cons,←ih];unfold Qaw;rw[List.filter_cons_of_pos (by simp[hx]),List.map_cons]
theorem nextN_up (n:Nat):∀(j:Nat) (a:Int),0≤a→a+j≤n→Qa0 n a ((up a j).map (· - 1))=some (a+j)
 |0,a,_,_=>by simp[up,Qa0]
 |j+1,a,h0,h=>by
  rw[up,List.map_cons,Qa0,if_neg (by omega)];rw[nextN_up n j (a+1) (by omega) (by omega)];congr 1;omega
theorem setP_ne {ws:List Word}{m:Int}(first:Int)(hr:Reg (Qab ws) m)(hw:1≤ws.length):setP ws first m≠[]:=by
 have h:=Qbr hr;intro e;have h2:=Qa2 ws (Qab ws) m first (endsP (Qab ws) m) 0
 have h3:(setP ws first m).length=0:=by rw[e];rfl
 unfold setP at h3;rw[h3] at h2;rw[List.eq_nil_of_length_eq_zero h2.symm] at h;have:0=ws.length:=h;omega
theorem parts_ne {m:Int}:∀(a:List (List Word)) (first:Int),(∀p∈a,Reg (Qab p) m∧1≤p.length)→(Qaj m first a).any (fun l=>decide (l=[]))=false
 |[],_,_=>rfl
 |p::a,first,h=>by
  have hp:=h p (by simp);rw[Qaj,List.any_cons,parts_ne a _ (fun q hq=>h q (by simp[hq])),decide_eq_false (setP_ne first hp.1 hp.2)];rfl
theorem GText.fine {a b:List (List Word)}(hg:GText a b):FineT a b:=chk_zero hg.chk
theorem GText.textE {a b:List (List Word)}(hg:GText a b){m h:Int}(hm:500≤m∧m≤2000)(hh:4≤h∧h≤100):textE a b m h=0:=by
 have hf:=hg.fine;have hl:Qa3 a b m=0:=by unfold Qa3;rw[if_neg (by rw[hg.chk];simp),if_pos hm]
 unfold Go.Proofs.YtegaapiocihcpaaDoor.textE;rw[if_neg (by rw[hl];simp)];unfold QaQ;have hr:∀p∈a++b,Reg (Qab p) m∧1≤p.length:=fun p hp=>⟨hf.reg hm.1 hm.2 hp,(hf.p p hp).1⟩
 rw[if_neg (by omega)];have h1:(Qah a b m).any (fun l=>decide (l=[]))=false:=parts_ne b _ (fun p hp=>hr p (by simp[hp]));rw[h1,if_neg (by simp)]
 have h2:(QaA a m).flatMap (·.notes)=(up 0 b.length).map (· - 1):=by
  unfold QaA;rw[Qb0 a 0 (fun p hp=>(hr p (by simp[hp])).1),notesP_seq,hg.seq]
 have h3:(Qah a b m).length=b.length:=QaG m b _;rw[h2,h3,nextN_up b.length b.length 0 (by omega) (by omega)];simp
theorem GText.wrong {a b:List (List Word)}(hg:GText a b){m h:Int}(hm:500≤m∧m≤2000)(hh:4≤h∧h≤100):QcE m h a b=0:=by
 unfold QcE;rw[if_neg (by rw[hg.textE hm hh];simp),if_neg];have h1:=hg.l1;rw[Qbt];intro e;have h2:Go.Proofs.YtegaapiocihcpaaDoor.tot a=0:=by omega
 obtain⟨p,ps,rfl⟩:∃p ps,a=p::ps:=by
  cases a with
  |nil=>simp at h1
  |cons p ps=>exact⟨p,ps,rfl⟩
 have h3:=(hg.p p (by simp)).1;unfold Go.Proofs.YtegaapiocihcpaaDoor.tot at h2;rw[List.flatten_cons,qA] at h2;omega
theorem GText.pages {a b:List (List Word)}(hg:GText a b){m h:Int}(hm:500≤m∧m≤2000)(hh:4≤h∧h≤100):Qac a b m h=Qar a b m h.toNat∧(Qac a b m h).length≤196:=by
 have hE:=hg.textE hm hh;have he:Qac a b m h=Qar a b m h.toNat:=by unfold Qac;rw[if_pos hE]
 refine⟨he,?_⟩;obtain⟨hf,-,hp⟩:=QbM hE;rw[he];have e1:=Qbv (Qah a b m) h.toNat (Qag (QaA a m) (Qah a b m)) (QaA a m) [];have e2:=Qcf hp;have e3:=Qa8 m a 0 (fun p hp=>hf.reg hm.1 hm.2 (by simp[hp]));have e4:=Qa8 m b (Go.Proofs.YtegaapiocihcpaaDoor.tot a:Nat) (fun p hp=>hf.reg hm.1 hm.2 (by simp[hp]));have e5:=hg.tot;rw[Qbt] at e5;unfold QaA Qah at*;unfold Qar QaA Qah;omega
theorem GText.short {a b:List (List Word)}(hg:GText a b):QcG a∧QcG b:=
 ⟨⟨by have:=hg.l4;omega,fun p hp=>by have:=(hg.p p hp).2.1;omega⟩,⟨by have:=hg.n3;omega,fun p hp=>by have:=(hg.q p hp).2.1;omega⟩⟩
structure TM (w:World)(A:Option Addr)(c:Nat)(B:Option Addr)(d:Nat)(a b:List (List Word)):Prop where
 ta:Sl w (fun b=>b<w.heap.size) A c a
 tb:Sl w (fun b=>b<w.heap.size) B d b
 sa:QcG a
 sb:QcG b
theorem TM.to {w w':World}{A B:Option Addr}{c d:Nat}{a b:List (List Word)}(h:TM w A c B d a b)(hb:Below w.heap.size w w'):TM w' A c B d a b:=⟨h.ta.to hb,h.tb.to hb,h.sa,h.sb⟩

structure Tame (l:List SectP):Prop where
 n:l.length≤5
 v:∀s∈l,s.vers.length≤4∧s.texts.length≤s.vers.length∧∀t∈s.texts,GText t.a t.b
structure Siz (m h:Int):Prop where
 m1:500≤m
 m2:m≤2000
 h1:4≤h
 h2:h≤100
theorem GBk.siz {m h:Int}{l:List SectP}(H:GBk m h l):Siz m h:=⟨H.m1,by have:=H.m2;omega,H.h1,by have:=H.h2;omega⟩
theorem GBk.tame {m h:Int}{l:List SectP}(H:GBk m h l):Tame l:=by
 refine⟨by have:=H.n;omega,fun s hs=>?_⟩;obtain⟨f,hf⟩:=H.s;obtain⟨i,hi,rfl⟩:=List.getElem_of_mem hs;obtain⟨-,-,j,hj,-,hv,ht,hg⟩:=hf i hi;exact⟨by rw[hv,QaR];omega,by rw[hv,QaR,ht];omega,hg⟩
theorem Tame.short {l:List SectP}(H:Tame l):Qdx l:=
 ⟨by have:=H.n;omega,fun s hs=>⟨by have:=(H.v s hs).1;omega,by have:=(H.v s hs).1;have:=(H.v s hs).2.1;omega,fun t ht=>((H.v s hs).2.2 t ht).short⟩⟩
theorem Tame.wf {l:List SectP}(H:Tame l):WfS l:=fun s hs=>(H.v s hs).2.1
theorem versB_tame {m h entry:Int}(hz:Siz m h):∀(ts:List TextP) (k:Nat) (num suf:Int) (vs:List Int),(∀t∈ts,GText t.a t.b)→(QaN m h entry k num suf vs ts).length≤196*ts.length
 |[],_,_,_,_,_=>by simp[QaN]
 |t::ts,k,num,suf,vs,hg=>by
  rw[QaN,qA,Qcq,qC];have h1:=((hg t (by simp)).pages ⟨hz.m1,hz.m2⟩ ⟨hz.h1,hz.h2⟩).2;have h2:=versB_tame (entry:=entry) hz ts (k+1) (if k=0 then num+(Qac t.a t.b m h).length else num) (if k=0 then suf else suf+(Qac t.a t.b m h).length) vs.tail (fun x hx=>hg x (by simp[hx]));omega
theorem Qda {m h:Int}(hz:Siz m h):∀(l:List SectP) (num:Int),(∀s∈l,s.texts.length≤4∧∀t∈s.texts,GText t.a t.b)→(Qas m h num l).length≤784*l.length
 |[],_,_=>by simp[Qas]
 |s::l,num,hs=>by
  rw[Qas,qA,qC];have h1:=versB_tame (entry:=s.entry) hz s.texts 0 num 0 s.vers (hs s (by simp)).2;have h2:=Qda hz l (num+QaC m h s) (fun x hx=>hs x (by simp[hx]));have h3:=(hs s (by simp)).1;omega
theorem Tame.pages {m h:Int}{l:List SectP}(H:Tame l)(hz:Siz m h):(Qaf m h l).length≤3920:=by
 have h1:=Qda hz l 0 (fun s hs=>⟨by have:=(H.v s hs).1;have:=(H.v s hs).2.1;omega,(H.v s hs).2.2⟩);have h2:=H.n;unfold Qaf;omega
theorem SM.bookT {w:World}{A:Option Addr}{c:Nat}{l:List SectP}{m h:Int}(hm:SM w A c l)(hl:Tame l)(hz:Siz m h):BookOk w m h A c l:=⟨hm.t.1,hm.s,hl.short,hl.wf,⟨by have:=hz.h1;omega,by have:=hz.h2;omega⟩,by have:=hl.pages hz;omega⟩
structure Plc (k:Nat)(l:List Seal):Prop where
 n:l.length≤k
 f:∀s∈l,0≤s.f∧s.f<s.u
theorem tmod_nat {a:Int}{n:Nat}(h:0≤a):a.tmod (n:Int)=((a.toNat%n:Nat):Int):=by
 obtain⟨b,rfl⟩:=Int.eq_ofNat_of_zero_le h;rw[Int.tmod_eq_emod_of_nonneg h];simp
theorem saddE_keep {l:List Seal}{s:Seal}{k:Nat}(h:Plc k l):((Qdo l s).2=0→Plc (k+1) (Qdo l s).1):=by
 unfold Qdo;split
 ·intro h;simp at h
 ·split
  ·intro h;simp at h
  ·split
   ·intro h;simp at h
   ·rename_i hv _ _;intro _;have hv':vld s=true:=(by simpa using hv);have hd:=of_decide_eq_true (show decide _=true from hv');refine⟨by have:=h.n;simp;omega,fun x hx=>?_⟩;rcases List.mem_append.1 hx with hx|hx
    ·exact h.f x hx
    ·obtain rfl:=List.mem_singleton.1 hx;omega
set_option maxRecDepth 100000 in
theorem placed_any (A:Option Addr)(c:Nat)(l:List Seal)(m h:Int)(Ab:Option Addr)(cb:Nat)(ss:List SectP)(w:World)(hl:Sl w (fun b=>b<w.heap.size) A c l)(hs:Sl w (fun b=>b<w.heap.size) Ab cb ss)(hll:l.length≤8) (hsm:∀s∈l,small s) (hss:∀s∈ss,1≤s.vers.length):
 Calls Tryd.prog 5 #[.slice A l.length c,.agg #[.int .i64 m,.int .i64 h,.slice Ab ss.length cb]] w fun e w'=>∃v,e=.returned v∧∃out,Own w' w.heap.size 59 v out∧Plc l.length out∧Below w.heap.size w w':=by
 have hlc:l.length≤c:=hl.1;have hsc:ss.length≤cb:=hs.1;have hcm:cb≤maxLen:=hs.2.1;have HL0:=Lh hl;have HS0:=Lh hs;have HSM:=Lh hsm;have HSS:=Lh hss;clear hl hs hsm hss;obtain⟨n,hn⟩:∃n,l.length=n:=⟨_,rfl⟩;obtain⟨ns,hns⟩:∃ns,ss.length=ns:=⟨_,rfl⟩;have HN:=Lh hn;have HNS:=Lh hns;rw[hn] at hlc hll;rw[hns] at hsc;rw[hn,hns];have hns63:ns≤9223372036854775807:=by unfold maxLen at hcm;omega
 clear hn hns hcm;obtain⟨X,hX⟩:∃X,w.heap.size=X:=⟨_,rfl⟩;obtain⟨w2,hw2⟩:∃w2,w.alloc (.cells #[.int .i64 m,.int .i64 h,.slice Ab ns cb] 25)=w2:=⟨_,rfl⟩;have hb2:Below w.heap.size w w2:=by rw[←hw2];exact bR.alloc nL _
 have hxx:ABox w2 X 25 [.int .i64 m,.int .i64 h,.slice Ab ns cb]:=by rw[←hw2,←hX];exact heap_alloc_new w _
 have HX:=Lh hxx;have HB:=Lh hb2;have HL:=Lh (HL0.out.to hb2);have HS:=Lh (HS0.out.to hb2);clear hxx hb2 HL0 HS0;go_enter Tryd.func5,Tryd.ntmps5;go_upto_region 1 with(fail);(try rw[hX]);(try rw[hw2]);clear hX hw2;go_wp2_with fail;go_loopw [5,6] (fun v i wr=>∃(k:Nat) (out:List Seal),k≤n∧i=.int .i64 k∧Own wr w2.heap.size 59 v out∧Plc k out∧Below w2.heap.size w2 wr) (fun _ i _=>n-(intOf i).toNat);(case atStart=>exact⟨0,[],Nat.zero_le _,rfl,Own.nil _ _ _,⟨by simp,by simp⟩,Below.refl _ _⟩);case round=>
  obtain⟨k,out,hk,rfl,hown,hpl,hbl⟩:=hrel;have HO:=Lh hown;have HP:=Lh hpl;have HBL:=Lh hbl;have hx2:=(HX.out.to hbl).cell 2 rfl;clear hown hpl hbl;by_cases hlt:k<n
  ·have hkI:(k:Int)<(n:Int):=by omega
   by_cases hz:0<ns
   ·have hzI:(0:Int)<(ns:Int):=by omega
    have hkl:k<l.length:=(by rw[HN.out];exact hlt);obtain⟨b,o,rfl,-,hbl,hok,d0,d1,d2,d3,d4⟩:=Qca (HL.out.to HBL.out) hkl;have hsm:=HSM.out _ (List.getElem_mem hkl);obtain⟨y,hy⟩:∃y,l[k]=y:=⟨_,rfl⟩;rw[hy] at d0 d1 d2 d3 d4 hok hsm;obtain⟨j,hj⟩:∃j,y.e.toNat%ns=j:=⟨_,rfl⟩;have hjn:j<ns:=(by rw[←hj];exact Nat.mod_lt _ hz);have hje:y.e.tmod (ns:Int)=(j:Int):=(by rw[tmod_nat hsm.1,hj]);have hjl:j<ss.length:=(by rw[HNS.out];exact hjn);obtain⟨b2,o2,Ag,cg,An,cn,rfl,-,hb2l,e0,e1,e2,e3,hg1,hn1,hI⟩:=sect_at (HS.out.to HBL.out) hjl;have hv1:=HSS.out _ (List.getElem_mem hjl);obtain⟨x,hx⟩:∃x,ss[j]=x:=⟨_,rfl⟩;rw[hx] at e0 e1 e2 e3 hg1 hn1 hI hv1;obtain⟨q,hq⟩:∃q,y.v.toNat%x.vers.length=q:=⟨_,rfl⟩;have hqn:q<x.vers.length:=(by rw[←hq];exact Nat.mod_lt _ (by omega));have hqe:y.v.tmod (x.vers.length:Int)=(q:Int):=(by rw[tmod_nat hsm.2.2.1,hq]);obtain⟨b3,o3,rfl,-,hb3l,hvI,c0⟩:=QbK hg1 hqn;obtain⟨vv,hvv⟩:∃vv,x.vers[q]=vv:=⟨_,rfl⟩;rw[hvv] at c0 hvI;have HSO:Hid (Seal.ok ⟨x.entry,vv,y.f,y.u,y.g⟩):=Lh ⟨hI,hvI,hok.2.2.1,hok.2.2.2.1,hok.2.2.2.2⟩;have hgc:x.vers.length≤cg:=hg1.1;have hncx:x.texts.length≤cn:=hn1.1;have HJE:=Lh hje;have HQE:=Lh hqe;have hjI:(j:Int)<(ns:Int):=(by omega);have hqI:(q:Int)<(x.vers.length:Int):=by omega
    have HC:Hid (∀V,Below wr.heap.size wr V→(V.cell? ⟨X,2,none⟩=some (.slice (some ⟨b2,o2,none⟩) ns cb)∧V.cell? ⟨b,o+k*5,none⟩=some (.int .i64 y.e)∧V.cell? ⟨b,o+k*5+1,none⟩=some (.int .i64 y.v)∧V.cell? ⟨b,o+k*5+2,none⟩=some (.int .i64 y.f)∧V.cell? ⟨b,o+k*5+3,none⟩=some (.int .i64 y.u)∧V.cell? ⟨b,o+k*5+4,none⟩=some (.int .i64 y.g))∧(V.cell? ⟨b2,o2+j*4,none⟩=some (.int .i64 x.entry)∧V.cell? ⟨b2,o2+j*4+1,none⟩=some (.bool x.frozen)∧V.cell? ⟨b2,o2+j*4+2,none⟩=some (.slice (some ⟨b3,o3,none⟩) x.vers.length cg)∧V.cell? ⟨b2,o2+j*4+3,none⟩=some (.slice An x.texts.length cn))∧V.cell? ⟨b3,o3+q,none⟩=some (.int .i64 vv)):=Lh (fun V hV=>by
     have hV2:∀{p:Addr} {u:Value},p.block<wr.heap.size→wr.cell? p=some u→V.cell? p=some u:=fun hp hc=>(hV.cell hp).trans hc
     exact⟨⟨hV2 (HX.out.to HBL.out).lt hx2,hV2 hbl d0,hV2 hbl d1,hV2 hbl d2,hV2 hbl d3,hV2 hbl d4⟩,⟨hV2 hb2l e0,hV2 hb2l e1,hV2 hb2l e2,hV2 hb2l e3⟩,hV2 hb3l c0⟩)
    clear hx2 d0 d1 d2 d3 d4 e0 e1 e2 e3 c0 hg1 hn1 hI hvI hok hsm hje hqe hy hj hx hq hvv hbl hb2l hb3l hjl hkl;have hx2:=(HC.out wr bR).1.1;go_upto_region 5 with(fail);refine Qaq [13] (fun i=>if i=13 then SP.box wr.heap.size #[.int .i64 0,.bool false,.slice none 0 0,.slice none 0 0] 34 else SP.any) 14 (by kernel_rfl) (by kernel_rfl) ?_;intro T _ g hg hgm;have q0:∀d,(g d).cell? ⟨X,2,none⟩=some (.slice (some ⟨b2,o2,none⟩) ns cb):=fun d=>(HC.out _ (hg d)).1.1
    have q1:∀d,(g d).cell? ⟨b,o+k*5,none⟩=some (.int .i64 y.e):=fun d=>(HC.out _ (hg d)).1.2.1
    have q2:∀d,(g d).cell? ⟨b2,o2+j*4,none⟩=some (.int .i64 x.entry):=fun d=>(HC.out _ (hg d)).2.1.1
    have q3:∀d,(g d).cell? ⟨b2,o2+j*4+1,none⟩=some (.bool x.frozen):=fun d=>(HC.out _ (hg d)).2.1.2.1
    have q4:∀d,(g d).cell? ⟨b2,o2+j*4+2,none⟩=some (.slice (some ⟨b3,o3,none⟩) x.vers.length cg):=fun d=>(HC.out _ (hg d)).2.1.2.2.1
    have q5:∀d,(g d).cell? ⟨b2,o2+j*4+3,none⟩=some (.slice An x.texts.length cn):=fun d=>(HC.out _ (hg d)).2.1.2.2.2
    have hje:=HJE.out;clear hx2;(repeat(refine QaB (by rfl) fun Kq hq=>?_;go_big_quiet_step (fail);refine wpQuiet_nil (hq _ ?_);clear hq Kq));refine Qa7 (by rfl) (by rfl) (fun d hG K Q hK=>?_) (fun v9 d hG hp Kr hr=>?_)
    ·go_simp;exact hK _ _ (bR.alloc nL _) ⟨_,rfl,(hg d).size,by simp,heap_alloc_new _ _⟩
    obtain⟨O,rfl,hO,-⟩:=(show ∃b,v9=.pointer (some ⟨b,0,none⟩)∧wr.heap.size≤b∧_ from hp);have HO5:=Lh hO;clear hO;(try clear hp);clear hG;go_frame;refine hr _ ?_;clear hr Kr;refine QcQ 1 (by rfl) (by rfl) (fun d hG=>?_);obtain⟨b',hb',-,hbl,hbh⟩:=(show ∃b,Value.pointer (some ⟨O,0,none⟩)=.pointer (some ⟨b,0,none⟩)∧wr.heap.size≤b∧b<(g d).heap.size∧(g d).heap[b]? =some (.cells #[.int .i64 0,.bool false,.slice none 0 0,.slice none 0 0] 34 (0,0)) from hG 13);cases hb';have HXO:Hid (ABox (g d) O 34 [.int .i64 0,.bool false,.slice none 0 0,.slice none 0 0]):=Lh hbh;have HD5:=Lh (hg d);clear hG hg hgm q0 q1 q2 q3 q4 q5 hje hbl hbh;generalize g d=wx at*;clear g;have hy0:=HXO.out;have x0:=hy0.cell 0 rfl;have f0:=hy0.fz 0;have hy1:=hy0.set 0 (.int .i64 x.entry);have x1:=hy1.cell 1 rfl;have f1:=hy1.fz 1;have hy2:=hy1.set 1 (.bool x.frozen);have x2:=hy2.cell 2 rfl;have f2:=hy2.fz 2;have hy3:=hy2.set 2 (.slice (some ⟨b3,o3,none⟩) x.vers.length cg);have x3:=hy3.cell 3 rfl;have f3:=hy3.fz 3;have hy4:=hy3.set 3 (.slice An x.texts.length cn);have HXF:=Lh hy4;clear hy0 hy1 hy2 hy3 hy4;refine QbJ (i:=14) (oi:=_) rfl (by kernel_rfl) (by rfl) (fun K hK=>?_);go_simp;refine hK _ _ ?_;clear hK K;(try go_frame);refine wpAny_done (by kernel_rfl) ?_ _;unfold Exit.then;have HW5:Hid (Below wr.heap.size wr ((((wx.setCell ⟨O,0,none⟩ (.int .i64 x.entry)).setCell ⟨O,1,none⟩ (.bool x.frozen)).setCell ⟨O,2,none⟩ (.slice (some ⟨b3,o3,none⟩) x.vers.length cg)).setCell ⟨O,3,none⟩ (.slice An x.texts.length cn))):=Lh ((((HD5.out.setCell (p:=⟨O,0,none⟩) HO5.out _).setCell (p:=⟨O,1,none⟩) HO5.out _).setCell (p:=⟨O,2,none⟩) HO5.out _).setCell (p:=⟨O,3,none⟩) HO5.out _);clear x0 x1 x2 x3 f0 f1 f2 f3 HXO HD5;generalize ((((wx.setCell ⟨O,0,none⟩ (.int .i64 x.entry)).setCell ⟨O,1,none⟩ (.bool x.frozen)).setCell ⟨O,2,none⟩ (.slice (some ⟨b3,o3,none⟩) x.vers.length cg)).setCell ⟨O,3,none⟩ (.slice An x.texts.length cn))=w5 at*;have HXS:Hid (ABox w5 O 34 [.int .i64 x.entry,.bool x.frozen,.slice (some ⟨b3,o3,none⟩) x.vers.length cg,.slice An x.texts.length cn]):=Lh (by simpa using HXF.out);clear HXF;obtain⟨⟨-,d0,d1,d2,d3,d4⟩,-,c0⟩:=HC.out w5 HW5.out;obtain⟨X6,hX6⟩:∃Y,w5.heap.size=Y:=⟨_,rfl⟩;obtain⟨w6,hw6⟩:∃W,w5.alloc (.cells #[.int .i64 y.e,.int .i64 y.v,.int .i64 y.f,.int .i64 y.u,.int .i64 y.g] 59)=W:=⟨_,rfl⟩;have hb6:Below w5.heap.size w5 w6:=(by rw[←hw6];exact bR.alloc nL _);have hx6:ABox w6 X6 59 [.int .i64 y.e,.int .i64 y.v,.int .i64 y.f,.int .i64 y.u,.int .i64 y.g]:=(by rw[←hw6,←hX6];exact heap_alloc_new w5 _);go_upto_region 7 with(fail);(try rw[hX6]);(try rw[hw6]);have HX6:=Lh hx6;have HW6:=Lh (HW5.out.trans (hb6.mono HW5.out.size));have HXS6:=Lh (HXS.out.to hb6);have hOX:Hid (O<X6):=Lh (by rw[←hX6];exact HXS.out.lt);have hX6h:Hid (wr.heap.size≤X6):=Lh (by rw[←hX6];exact HW5.out.size);clear hw6 hb6 hx6 hX6 d0 d1 d2 d3 d4 c0 HXS;have a0:=HXS6.out.cell 0 rfl;have a2:=HXS6.out.cell 2 rfl;have b0:=HX6.out.cell 0 rfl;have b1:=HX6.out.cell 1 rfl;have g0:=HX6.out.fz 0;go_upto_region 8 with(fail);have HX7:Hid (ABox (w6.setCell ⟨X6,0,none⟩ (.int .i64 x.entry)) X6 59 [.int .i64 x.entry,.int .i64 y.v,.int .i64 y.f,.int .i64 y.u,.int .i64 y.g]):=Lh (by simpa using HX6.out.set 0 (.int .i64 x.entry));have HW7:Hid (Below wr.heap.size wr (w6.setCell ⟨X6,0,none⟩ (.int .i64 x.entry))):=Lh (HW6.out.setCell (p:=⟨X6,0,none⟩) hX6h.out _);have HXS7:Hid (ABox (w6.setCell ⟨X6,0,none⟩ (.int .i64 x.entry)) O 34 [.int .i64 x.entry,.bool x.frozen,.slice (some ⟨b3,o3,none⟩) x.vers.length cg,.slice An x.texts.length cn]):=Lh ((Qad w6 X6 0 (.int .i64 x.entry) (g:=O) (by have:=hOX.out;omega)).trans HXS6.out);clear HX6 HW6 HXS6 a0 a2 b0 b1 g0;generalize w6.setCell ⟨X6,0,none⟩ (.int .i64 x.entry)=w7 at*;refine wp_region_tail rfl (by kernel_rfl) (by kernel_rfl) ?_;intro T hT g hgb hgm;have a2:∀d,(g d).cell? ⟨O,2,none⟩=some (.slice (some ⟨b3,o3,none⟩) x.vers.length cg):=fun d=>(HXS7.out.to (hgb d)).cell 2 rfl
    have b1:∀d,(g d).cell? ⟨X6,1,none⟩=some (.int .i64 y.v):=fun d=>(HX7.out.to (hgb d)).cell 1 rfl
    have c0:∀d,(g d).cell? ⟨b3,o3+q,none⟩=some (.int .i64 vv):=fun d=>(HC.out (g d) (HW7.out.trans ((hgb d).mono HW7.out.size))).2.2
    have HGB:=Lh hgb;have hqe:=HQE.out;clear hgb hgm;dsimp only[List.dropLast];(repeat(go_big_quiet_step (fail)));refine wpQuiet_nil ?_;rintro _ ⟨d,rfl⟩;refine⟨rfl,?_⟩;have HX8:=Lh (HX7.out.to (HGB.out d));have HW8:=Lh (HW7.out.trans ((HGB.out d).mono HW7.out.size));clear a2 b1 c0 HGB hqe HX7 HW7 HXS7;generalize g d=w8 at*;clear g;have b1:=HX8.out.cell 1 rfl;have g1:=HX8.out.fz 1;go_simp;clear b1 g1;(try unfold Exit.then);have HX9:Hid (ABox (w8.setCell ⟨X6,1,none⟩ (.int .i64 vv)) X6 59 [.int .i64 x.entry,.int .i64 vv,.int .i64 y.f,.int .i64 y.u,.int .i64 y.g]):=Lh (by simpa using HX8.out.set 1 (.int .i64 vv));have HW9:Hid (Below wr.heap.size wr (w8.setCell ⟨X6,1,none⟩ (.int .i64 vv))):=Lh (HW8.out.setCell (p:=⟨X6,1,none⟩) hX6h.out _);clear HX8 HW8;generalize w8.setCell ⟨X6,1,none⟩ (.int .i64 vv)=w9 at*;have hbo:=HO.out.below HW9.out;obtain⟨A9,c9,rfl,hs9⟩:=hbo.sl;obtain⟨no,hno⟩:∃no,out.length=no:=⟨_,rfl⟩;have HS9:=Lh hs9;have HNO:=Lh hno;have HKP:=Lh (saddE_keep (s:=⟨x.entry,vv,y.f,y.u,y.g⟩) HP.out);rw[hno];clear hs9 hbo hno;have a0:=HX9.out.cell 0 rfl;have a1:=HX9.out.cell 1 rfl;have a2:=HX9.out.cell 2 rfl;have a3:=HX9.out.cell 3 rfl;have a4:=HX9.out.cell 4 rfl
    go_upto_region 10 with(first|(go_at_call 16;refine(QcW A9 c9 no out ⟨x.entry,vv,y.f,y.u,y.g⟩ w9 HS9.out HNO.out HSO.out).mono ?_;rintro e w10 ⟨z,rfl,hz,hb⟩;have HZ:=Lh hz;have HW10:=Lh (HW9.out.trans (hb.mono HW9.out.size));have HO10:=Lh ((HO.out.below HW9.out).below hb);clear hb hz)|fail)
    clear a0 a1 a2 a3 a4;generalize Qdo out ⟨x.entry,vv,y.f,y.u,y.g⟩=r at*;obtain⟨ro,re⟩:=r;dsimp only at HZ HKP ⊢;by_cases hre:re=0
    ·subst hre;have hk:=HKP.out rfl;have HB10:=Lh (HBL.out.trans (HW10.out.mono HBL.out.size));have HZ2:=Lh (HZ.out.re (B:=w2.heap.size) (Nat.le_trans HBL.out.size HW9.out.size));go_wp2_with fail;go_roundw;(case rel=>exact⟨k+1,ro,by omega,by go_num,HZ2.out,hk,HB10.out⟩);case measure=>simp[intOf];omega
    ·have HB10:=Lh (HBL.out.trans (HW10.out.mono HBL.out.size));go_wp2_with fail;go_roundw;(case rel=>exact⟨k+1,out,by omega,by go_num,by rw[HNO.out] at *;exact HO10.out,⟨by have:=HP.out.n;omega,HP.out.f⟩,HB10.out⟩);case measure=>simp[intOf];omega
   ·have hzI:¬(0:Int)<(ns:Int):=by omega
    have HBE:=Lh (HB.out.trans (HBL.out.mono HB.out.size));go_wp2_with fail;go_ret;exact⟨_,rfl,out,HO.out.re HB.out.size,⟨by have:=HP.out.n;have:=HN.out;omega,HP.out.f⟩,HBE.out⟩
  ·obtain rfl:k=n:=by omega
   have HBE:=Lh (HB.out.trans (HBL.out.mono HB.out.size));go_wp2_with fail;go_ret;exact⟨_,rfl,out,HO.out.re HB.out.size,HP.out,HBE.out⟩
structure CoreP where
 entry:Int
 ver:Int
 body:List LineP
 notes:List LineP
def PageP.core (p:PageP):CoreP:=⟨p.entry,p.ver,p.body,p.notes⟩
def QbT (e v:Int)(p:PageP):CoreP:=⟨e,v,p.body,p.notes⟩
def QaI (m h e:Int):List Int→List TextP→List CoreP
 |_,[]=>[]
 |vs,t::ts=>(Qac t.a t.b m h).map (QbT e (vs.headD 0))++QaI m h e vs.tail ts
def QbS (m h:Int)(l:List SectP):List CoreP:=l.flatMap fun s=>QaI m h s.entry s.vers s.texts
theorem Qdz (e v:Int):∀(ps:List PageP) (num suf:Int) (k:Nat),(QaD e v num suf k ps).map PageP.core=ps.map (QbT e v)
 |[],_,_,_=>by simp[QaD]
 |p::ps,num,suf,k=>by
  rw[Qbu,List.map_cons,List.map_cons,Qdz];rfl
theorem versB_core (m h e:Int):∀(ts:List TextP) (k:Nat) (num suf:Int) (vs:List Int),(QaN m h e k num suf vs ts).map PageP.core=QaI m h e vs ts
 |[],_,_,_,_=>by simp[QaN,QaI]
 |t::ts,k,num,suf,vs=>by
  rw[QaN,List.map_append,Qdz,versB_core m h e ts];rfl
theorem Qdg (m h:Int):∀(l:List SectP) (num:Int),(Qas m h num l).map PageP.core=QbS m h l
 |[],_=>rfl
 |s::l,num=>by
  rw[Qas,List.map_append,versB_core,Qdg m h l];rfl
theorem Qb3 (m h:Int)(l:List SectP):(Qaf m h l).map PageP.core=QbS m h l:=Qdg m h l 0
end Go.Proofs.YtegaapiocihcpaaDoor
