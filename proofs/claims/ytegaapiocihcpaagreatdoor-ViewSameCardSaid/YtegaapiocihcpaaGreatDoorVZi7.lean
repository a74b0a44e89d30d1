/- Texts of VwCSm. -/
import Derived.Test.YtegaapiocihcpaaGreatDoorVZi6
import Derived.Deep.RegionLaw
import Derived.Deep.RegionHeld3
set_option maxHeartbeats 4000000
namespace Go.Proofs.YtegaapiocihcpaaGreatDoor
open Go.RowKit
theorem Qa7 (A:Option Addr)(c:Nat)(l:List Int)(i:Int)(m:Int)(w:World)(hl:Sl w (fun b=>b<w.heap.size) A c l)(hm:1≤m)(hm2:m≤1000000)(hi0:0≤i):
 Calls Tryz.prog 77 #[.slice A l.length c,.int .i64 i,.int .i64 m] w fun e w'=>∃r:Nat,e=.returned (.int .i64 (r:Int))∧(r:Int)<m∧w=w':=by
 obtain⟨i,rfl⟩:=Int.eq_ofNat_of_zero_le hi0;clear hi0;have hlen:l.length≤9223372036854775807:=by have:=hl.1;have:=hl.2.1;unfold maxLen at this;omega
 have h0:¬(i:Int)<0:=by omega
 by_cases hi:i<l.length
 ·obtain⟨b,o,rfl,_,hbl,hx,hc⟩:=Qbr hl hi;obtain⟨a0,a1⟩:=aro_lt l[i] m hm;generalize l[i]=x at*;have Hx:=Lh hx;have hi1:¬(l.length:Int)≤(i:Int):=(by omega);have hi2:(i:Int)<(l.length:Int):=(by omega);have hi0:0≤(i:Int):=(by omega);clear hx hl hi;go_enter Tryz.func77,Tryz.ntmps77;go_wp2_with fail;refine(around_any x m _ Hx.out hm (by omega)).mono ?_;rintro e w' ⟨rfl,rfl⟩;generalize aro x m=r at*;go_wp2_with fail;go_ret;exact⟨r.toNat,Qam (by omega),by omega,rfl⟩
 ·have hi1:(l.length:Int)≤(i:Int):=by omega
  clear hl hi;go_enter Tryz.func77,Tryz.ntmps77;go_wp2_with fail;go_ret;exact⟨0,rfl,by omega,rfl⟩
def Qc6 (l:List Word):Prop:=∀x∈l,x.n=0
theorem last_any (A:Option Addr)(c:Nat)(l:List (List Word))(n:Nat)(w:World)(hl:Sl w (fun b=>b<w.heap.size) A c l)(hn:n≤1000000):
 Calls Tryz.prog 80 #[.slice A l.length c,.int .i64 (n:Int)] w fun e w'=>∃b:Bool,e=.returned (.bool b)∧(b=false→∀p∈l.drop (n+1),Qc6 p)∧w=w':=by
 have hlen:l.length≤9223372036854775807:=by have:=hl.1;have:=hl.2.1;unfold maxLen at this;omega
 have h1:(n:Int)≤1000000:=by omega
 have h0:0≤(n:Int):=by omega
 have Hl:=Lh hl;clear hl;go_enter Tryz.func80,Tryz.ntmps80;go_wp2_with fail;go_loopw [5,6] (fun i _ wr=>∃k:Nat,n+1≤k∧(k≤l.length∨k=n+1)∧i=.int .i64 k∧Hid (∀j (hj:j<l.length),n+1≤j→j<k→Qc6 l[j])∧wr=w) (fun i _ _=>l.length-(intOf i).toNat);(case atStart=>exact⟨n+1,Nat.le_refl _,.inr rfl,by go_num,(fun j hj h1 h2=>absurd h1 (by omega)),rfl⟩);case round=>
  obtain⟨k,hk,hk2,rfl,hno,rfl⟩:=hrel;by_cases hlt:k<l.length
  ·obtain⟨b,o,Ap,cp,rfl,_,hbl,hc,hp⟩:=Qbw Hl.out hlt;have hkl:(k:Int)<(l.length:Int):=(by omega);have hk0:(0:Int)≤(k:Int):=(by omega);have HT:=Lh (fun(h:Qc6 l[k]) j (hj:j<l.length) (h1:n+1≤j) (h2:j<k+1)=>(by by_cases e:j=k;subst e;exact h;exact hno.out j hj h1 (by omega):Qc6 l[j]));have h2:l[k].length≤9223372036854775807:=(by have:=hp.1;have:=hp.2.1;unfold maxLen at this;omega);generalize l[k]=p at*;have Hp:=Lh hp;have hk3:(k:Int)≤9223372036854775806:=(by omega);clear hp hk2 hno;go_wp2_with fail;obtain⟨wo,rfl⟩:∃wo:World,wo=wr:=⟨_,rfl⟩;go_loopw [6] (fun i wr=>∃j:Nat,j≤p.length∧i=.int .i64 j∧Hid (∀i (hi:i<p.length),i<j→p[i].n=0)∧wr=wo) (fun i _=>p.length-(intOf i).toNat);(case atStart=>exact⟨0,Nat.zero_le _,rfl,(fun i hi h=>absurd h (by omega)),rfl⟩);case round=>
    obtain⟨j,hj,rfl,hno2,rfl⟩:=hrel;by_cases hjl:j<p.length
    ·obtain⟨b3,o3,rfl,_,hbl3,hok,d0,d1,d2,d3⟩:=Qct Hp.out hjl;have hj1:(j:Int)<(p.length:Int):=(by omega);have hj0:(0:Int)≤(j:Int):=(by omega);have HT2:=Lh (fun(h:p[j].n=0) i (hi:i<p.length) (h2:i<j+1)=>(by by_cases e:i=j;subst e;exact h;exact hno2.out i hi (by omega):p[i].n=0));have hr:=hok.2.2.2;generalize p[j]=x at*;clear hok d0 d1 d2;by_cases hx:x.n=0
     ·have E:=Lh (HT2.out hx);rw[hx] at d3;clear hx HT2 hno2;go_wp2_with fail;go_roundw;(case rel=>exact⟨j+1,by omega,by go_num,E.out,by first|trivial|rfl⟩);case measure=>simp[intOf];omega
     ·have hB:(x.n==0)=false:=beq_eq_false_iff_ne.2 hx;clear hx HT2 hno2;go_wp2_with fail;go_ret;exact⟨true,rfl,fun h=>(by cases h),rfl⟩
    ·have E:=Lh (HT.out (fun x hx=>by obtain⟨i,hi,rfl⟩:=List.getElem_of_mem hx;exact hno2.out i hi (by omega)));clear HT hno2;go_wp2_with fail;go_roundw;(case rel=>exact⟨k+1,by omega,by omega,by go_num,E.out,by first|trivial|rfl⟩);case measure=>simp[intOf];omega
  ·have E:=Lh (fun p (hp:p∈l.drop (n+1))=>(by
    obtain⟨i,hi,rfl⟩:=List.getElem_of_mem hp
    rw[List.length_drop] at hi
    rw[List.getElem_drop]
    exact hno.out (n+1+i) (by omega) (by omega) (by omega):Qc6 p))
   clear hno;go_wp2_with fail;go_ret;exact⟨false,rfl,fun _=>E.out,rfl⟩
def QaW (x:Word)(m:Int):Word:=⟨x.s,x.key,x.t,m⟩
def Qdq (p:List Word)(m:Int)(b:Bool)(q:List Word):Prop:=
 (b=false∧q=p)∨(b=true∧∃i,∃h:i<p.length,(∀j (hj:j<p.length),i≤j→p[j].n=0)∧q=p.set i (QaW p[i] m))
def RefP (g cap:Nat)(l:List Word)(m:Int)(later:Bool)(w:World)(e:Ending)(w':World):Prop:=
 ∃b:Bool,e=.returned (.bool b)∧∃q,Qdq l m b q∧(b=true→later=false)∧q.length=l.length∧Own w' 0 66 (.slice (some ⟨g,0,none⟩) l.length cap) q∧w.grownBy w' (some g)
theorem refer_any (g cap:Nat)(l:List Word)(n:Nat)(m:Int)(later:Bool)(w:World)(hown:Own w 0 66 (.slice (some ⟨g,0,none⟩) l.length cap) l)(hn:n≤1000000)(hm0:0≤m)(hm:m≤1000)(hlen:l.length≤1000):
 Calls Tryz.prog 79 #[.slice (some ⟨g,0,none⟩) l.length cap,.int .i64 (n:Int),.int .i64 m,.bool later] w (RefP g cap l m later w):=by
 have h1:(n:Int)≤1000000:=by omega
 have h0:0≤(n:Int):=by omega
 have h2:(l.length:Int)≤1000:=by omega
 obtain⟨A,c,e1,hs⟩:=hown.sl;obtain⟨rfl,_,rfl⟩:=Value.slice.inj e1;have Hs:=Lh hs;have HO:=Lh hown;clear e1 hs hown;go_enter Tryz.func79,Tryz.ntmps79;go_wp2_with fail;go_loopw [9,10] (fun f i wr=>∃k:Nat,k≤l.length∧i=.int .i64 k∧(∃q:Nat,f=.int .i64 (q:Int)∧q≤k∧Hid (∀j (hj:j<l.length),q≤j→j<k→l[j].n=0))∧wr=w) (fun _ i _=>l.length-(intOf i).toNat);(case atStart=>exact⟨0,Nat.zero_le _,rfl,⟨0,rfl,Nat.le_refl _,(fun j hj h1 h2=>absurd h2 (by omega))⟩,rfl⟩);case round=>
  obtain⟨k,hk,rfl,⟨q,rfl,hqk,hno⟩,rfl⟩:=hrel;by_cases hlt:k<l.length
  ·obtain⟨b3,o3,e3,_,hbl3,hok,d0,d1,d2,d3⟩:=Qct Hs.out hlt;obtain⟨rfl,rfl⟩:b3=g∧o3=0:=by simpa using e3.symm
   simp only[Nat.zero_add] at d3;have hkl:(k:Int)<(l.length:Int):=(by omega);have hk0:(0:Int)≤(k:Int):=(by omega);have HT:=Lh (fun(h:l[k].n=0) j (hj:j<l.length) (h1:q≤j) (h2:j<k+1)=>(by by_cases e:j=k;subst e;exact h;exact hno.out j hj h1 (by omega):l[j].n=0));have hr:=hok.2.2.2;generalize l[k]=x at*;clear hok d0 d1 d2 e3;by_cases hx:x.n=0
   ·have E:=Lh (HT.out hx);rw[hx] at d3;clear hx HT hno;go_wp2_with fail;go_roundw;(case rel=>exact⟨k+1,by omega,by go_num,⟨q,rfl,by omega,E.out⟩,by first|trivial|rfl⟩);case measure=>simp[intOf];omega
   ·have hB:(x.n==0)=false:=beq_eq_false_iff_ne.2 hx;clear hx HT hno;go_wp2_with fail;go_roundw;(case rel=>exact⟨k+1,by omega,by go_num,⟨k+1,by go_num,by omega,(fun j hj h1 h2=>absurd h2 (by omega))⟩,by first|trivial|rfl⟩);case measure=>simp[intOf];omega
  ·obtain rfl:k=l.length:=by omega
   have hno2:=Lh (fun j (hj:j<l.length) (h1:q≤j)=>hno.out j hj h1 hj);clear hno;cases later with
   |true=>
    go_wp2_with fail;go_ret;exact⟨false,rfl,l,.inl ⟨rfl,rfl⟩,fun h=>(by cases h),rfl,HO.out,World.grownBy.refl _ _⟩
   |false=>
    by_cases hq:q<l.length
    ·have hq1:(q:Int)<(l.length:Int):=by omega
     have hq0:(0:Int)≤(q:Int):=(by omega);have hmod:n%(l.length-q)<l.length-q:=Nat.mod_lt _ (by omega);have hmi:(n:Int)%((l.length:Int)-(q:Int))=((n%(l.length-q):Nat):Int):=by
      rw[Int.natCast_emod];congr 1;omega
     generalize n%(l.length-q)=r at*;obtain⟨g',cap',es,e4,_,hg,_,hr4,hcell,hfz⟩:=HO.out.at_ (show q+r<l.length by omega);obtain⟨re,hok⟩:=hr4;subst re;have c3:=hcell 3 _ rfl;rw[show Rep.size Word=4 from rfl] at c3;obtain⟨rfl,_⟩:g'=g∧cap'=cap:=by
      have:=Value.slice.inj e4;simp at this;exact⟨this.1.symm,this.2.symm⟩
     have HH:=Lh (HO.out.setf (q+r) 3 (show q+r<l.length by omega) (by decide) (.int .i64 m) rfl (QaW l[q+r] m) (fun S es h=>by
      obtain⟨h1,h2⟩:=h
      subst h1
      exact⟨rfl,h2.1,h2.2.1,h2.2.2.1,⟨by show -9223372036854775808≤m;omega,by show m≤9223372036854775807;omega⟩⟩) (o:=(q+r)*4+3) rfl)
     have HR:Hid (Qdq l m true (l.set (q+r) (QaW l[q+r] m))):=.inr ⟨rfl,q+r,by omega,fun j hj h=>hno2.out j hj (by omega),rfl⟩;have hk1:(q:Int)+(r:Int)<(l.length:Int):=(by omega);have hk0:0≤(q:Int)+(r:Int):=(by omega);generalize l[q+r].n=old at*;have HL:Hid ((l.set (q+r) (QaW l[q+r] m)).length=l.length):=Lh (by simp);generalize l.set (q+r) _=l' at*;clear hok hcell e4;go_wp2_with fail;go_ret;exact⟨true,rfl,_,HR.out,fun _=>rfl,HL.out,HH.out.1,HH.out.2⟩
    ·have hq1:¬(q:Int)<(l.length:Int):=by omega
     go_wp2_with fail;go_ret;exact⟨false,rfl,l,.inl ⟨rfl,rfl⟩,fun h=>(by cases h),rfl,HO.out,World.grownBy.refl _ _⟩
theorem raw_info:(Tryz.prog.info? 110).map (fun i=>(i.zero,i.size,i.bytes))=some (some (.slice none 0 0),Rep.size Raw,24):=by kernel_rfl
def Qed (m:Nat)(p:List Word):Prop:=1≤p.length∧p.length≤m∧∀x∈p,Good x∧x.n=0
theorem Own.fit {α:Type}[Rep α]{w w':World}{base:Nat}{e:TypeId}{v:Value}{l:List α}(h:Own w' base e v l)(hb:base=w.heap.size):∀g,v.ownBlock=some g→w.heap.size≤g:=fun g hg=>hb▸(h.lt g hg).1
structure St1 (w wr:World)(Y:Nat)(k:Nat)(v:Value)(us:List Raw)(ls:List (List Word)):Prop where
 y:TBox wr Y v (.slice none 0 0)
 x:TBox wr w.heap.size (.slice none 0 0) (.slice none 0 0)
 n:Nest wr (fun g=>Y<g) 110 66 v us ls
 l:ls.length=k
 f:∀p∈ls,Qed 40 p
 b:Below w.heap.size w wr
theorem St1.push {w wr w4 w5:World}{Y k:Nat}{v v':Value}{us:List Raw}{ls:List (List Word)}{u:Raw}{p:List Word}{o:Obj}(h:St1 w wr Y k v us ls)(hY:w.heap.size<Y)(hb4:Below wr.heap.size wr w4)(hu:Own w4 wr.heap.size 66 u.v p)(hp:Qed 40 p) (hown:Own w5 0 110 v' (us++[u])) (hg:(w4.alloc o).grownBy w5 v.ownBlock) (hat:v'.ownBlock=v.ownBlock∨v'.ownBlock=some (w4.alloc o).heap.size):
 St1 w (w5.setCell ⟨Y,0,none⟩ v') Y (k+1) v' (us++[u]) (ls++[p]):=by
 have hylt:=h.y.lt;have hz:=hb4.size;have hvB:∀g,v.ownBlock=some g→Y<g:=h.n.mv;have keep:∀b,b<w4.heap.size→some b≠v.ownBlock→w5.heap[b]? =w4.heap[b]? :=fun b hb hne=>(hg.block b (by simp;omega) hne).trans (Below.heap_alloc w4 o b hb)
 have y5:TBox w5 Y v (.slice none 0 0):=(h.y.below hb4).kept (keep Y (by omega) (fun e=>by have:=hvB Y e.symm;omega));have x5:TBox w5 w.heap.size (.slice none 0 0) (.slice none 0 0):=(h.x.below hb4).kept (keep _ (by omega) (fun e=>by have:=hvB _ e.symm;omega))
 have n5:Nest w5 (fun g=>Y<g) _ _ v' (us++[u]) (ls++[p]):=
  (Nest.push (B:=fun g=>Y<g∧g<wr.heap.size) (B':=fun g=>Y<g) (H:=(w4.alloc o).heap.size) ((h.n.mono fun g hg' hB=>⟨hB,hg'⟩).below hb4) (hu.re (Nat.zero_le _)) (fun g hg'=>by have:=hu.fit rfl g hg';exact⟨fun hh=>by have:=hh.2;omega,by omega⟩) keep hown hat (by simp) (fun g hh=>hh.1) (by simp;omega))
 refine⟨y5.set0 v',x5.other (by omega) v',n5.kept fun g hg' hB=>Qaa w5 Y 0 v' (by omega),by simp[h.l],fun q hq=>?_,?_⟩
 ·rcases List.mem_append.1 hq with hq|hq
  ·exact h.f q hq
  ·rw[List.mem_singleton] at hq;subst hq;exact hp
 ·have b4:Below w.heap.size w w4:=h.b.trans (hb4.mono h.b.size);have b5:Below w.heap.size w w5:=(b4.alloc b4.size o).grown hg (by have:=b4.size;simp;omega) (fun g hg'=>by have:=hvB g hg';omega);exact b5.setCell (p:=⟨Y,0,none⟩) (by show w.heap.size≤Y;omega) v'
theorem St1.cell {w wr w4 w5:World}{Y k:Nat}{v:Value}{us:List Raw}{ls:List (List Word)}{o:Obj}(h:St1 w wr Y k v us ls)(_hY:w.heap.size<Y)(hb4:Below wr.heap.size wr w4)(hg:(w4.alloc o).grownBy w5 v.ownBlock):w5.cell? ⟨Y,0,none⟩=some v∧∀o,w5.frozen? ⟨Y,o,none⟩=false:=by
 have y5:TBox w5 Y v (.slice none 0 0):=(h.y.below hb4).kept ((hg.block Y (by have:=h.y.lt;have:=hb4.size;simp;omega) (fun e=>by have:=h.n.mv Y e.symm;omega)).trans (Below.heap_alloc w4 o Y (by have:=h.y.lt;have:=hb4.size;omega)));exact⟨y5.c0,y5.fz⟩
def QaO (l:List Word):List Int:=(l.map (·.n)).filter (fun x=>x != 0)
theorem QaJ (a b:List Word):QaO (a++b)=QaO a++QaO b:=by unfold QaO;rw[List.map_append,List.filter_append]
theorem QdB {l:List Word}(h:∀x∈l,x.n=0):QaO l=[]:=by
 unfold QaO;rw[List.filter_eq_nil_iff];intro y hy;obtain⟨x,hx,rfl⟩:=List.mem_map.1 hy;rw[h x hx];simp
theorem seqOf_none {ls:List (List Word)}(h:∀p∈ls,Qc6 p):QaO ls.flatten=[]:=QdB fun x hx=>by
 obtain⟨p,hp,hxp⟩:=List.mem_flatten.1 hx;exact h p hp x hxp
theorem seq_set (ls:List (List Word))(k i:Nat)(hk:k<ls.length)(hi:i<ls[k].length)(m:Int)(hm:m≠0)(hl:∀p∈ls.drop (k+1),Qc6 p)(h0:∀j (hj:j<ls[k].length),i≤j→ls[k][j].n=0):
 QaO (ls.set k (ls[k].set i (QaW ls[k][i] m))).flatten=QaO ls.flatten++[m]:=by
 have e1:ls.set k (ls[k].set i (QaW ls[k][i] m))=ls.take k++(ls[k].set i (QaW ls[k][i] m)::ls.drop (k+1)):=by rw[List.set_eq_take_append_cons_drop,if_pos hk]
 have e2:ls=ls.take k++(ls[k]::ls.drop (k+1)):=by rw[←List.drop_eq_getElem_cons hk,List.take_append_drop]
 have e3:ls[k].set i (QaW ls[k][i] m)=ls[k].take i++(QaW ls[k][i] m::ls[k].drop (i+1)):=by rw[List.set_eq_take_append_cons_drop,if_pos hi]
 have e4:ls[k]=ls[k].take i++ls[k].drop i:=(List.take_append_drop i _).symm
 have d1:QaO (ls[k].drop i)=[]:=QdB fun x hx=>by
  obtain⟨j,hj,rfl⟩:=List.getElem_of_mem hx;rw[List.length_drop] at hj;rw[List.getElem_drop];exact h0 (i+j) (by omega) (by omega)
 have d2:QaO (ls[k].drop (i+1))=[]:=QdB fun x hx=>by
  obtain⟨j,hj,rfl⟩:=List.getElem_of_mem hx;rw[List.length_drop] at hj;rw[List.getElem_drop];exact h0 (i+1+j) (by omega) (by omega)
 have d3:=seqOf_none hl;have d4:QaO [QaW ls[k][i] m]=[m]:=by simp[QaO,QaW,hm]
 have l1:QaO (ls.set k (ls[k].set i (QaW ls[k][i] m))).flatten=QaO (ls.take k).flatten++(QaO (ls[k].take i)++[m]):=by
  rw[e1,List.flatten_append,List.flatten_cons,QaJ,QaJ,d3,List.append_nil,e3,QaJ,←List.singleton_append,QaJ,d4,d2,List.append_nil]
 have l2:QaO ls.flatten=QaO (ls.take k).flatten++QaO (ls[k].take i):=by
  conv=>lhs;rw[e2,List.flatten_append,List.flatten_cons,QaJ,QaJ,d3,List.append_nil,e4,QaJ,d1,List.append_nil]
 rw[l1,l2,List.append_assoc]
structure GText (ls ns:List (List Word)):Prop where
 l1:1≤ls.length
 l4:ls.length≤4
 n3:ns.length≤3
 p:∀p∈ls,1≤p.length∧p.length≤40∧∀x∈p,Good x
 q:∀p∈ns,Qed 12 p
 s:QaO ls.flatten=(List.range ns.length).map (fun i:Nat=>(i:Int)+1)
structure St2 (w wr:World)(Y H:Nat)(v vn:Value)(us un:List Raw)(ls ns:List (List Word)):Prop where
 y:TBox wr Y v vn
 x:TBox wr w.heap.size (.slice none 0 0) (.slice none 0 0)
 n:Nest wr (fun g=>Y<g∧g<H) 110 66 v us ls
 m:Nest wr (fun g=>H≤g) 110 66 vn un ns
 b:Below w.heap.size w wr
 hz:H≤wr.heap.size
 yh:Y<H
theorem St1.next {w wr:World}{Y k:Nat}{v:Value}{us:List Raw}{ls:List (List Word)}(h:St1 w wr Y k v us ls):St2 w wr Y wr.heap.size v (.slice none 0 0) us [] ls []:=
 ⟨h.y,h.x,h.n.mono fun _ hg hB=>⟨hB,hg⟩,Nest.nil _ _ _ _,h.b,Nat.le_refl _,h.y.lt⟩
theorem St2.inner {w wr w':World}{Y H:Nat}{v vn:Value}{us un:List Raw}{ls ns:List (List Word)}(h:St2 w wr Y H v vn us un ls ns)(hY:w.heap.size<Y)(i:Nat)(hi:i<us.length){q:List Word}{g:Nat}(hg:us[i].v.ownBlock=some g) (hown:Own w' 0 66 us[i].v q) (hgr:wr.grownBy w' (some g)):St2 w w' Y H v vn us un (ls.set i q) ns:=by
 have hgB:=h.n.mi i hi g hg;have kp:∀b,b<wr.heap.size→b≠g→w'.heap[b]? =wr.heap[b]? :=fun b hb hne=>hgr.block b hb (fun e=>hne (by injection e))
 exact⟨h.y.kept (kp _ h.y.lt (by omega)),h.x.kept (kp _ h.x.lt (by omega)),h.n.inner i hi (fun b hb hne=>kp b hb (fun e=>hne (by rw[e,hg]))) hown,h.m.kept (fun b hb hB=>kp b hb (by omega)),h.b.grown hgr h.b.size (fun g' hg'=>by injection hg' with e;omega),Nat.le_trans h.hz hgr.size,h.yh⟩
theorem St2.cells {w wr w4 w5:World}{Y H:Nat}{v vn:Value}{us un:List Raw}{ls ns:List (List Word)}{o:Obj}(h:St2 w wr Y H v vn us un ls ns)(hb4:Below wr.heap.size wr w4)(hg:(w4.alloc o).grownBy w5 vn.ownBlock):w5.cell? ⟨Y,1,none⟩=some vn∧∀o,w5.frozen? ⟨Y,o,none⟩=false:=by
 have y5:TBox w5 Y v vn:=(h.y.below hb4).kept ((hg.block Y (by have:=h.y.lt;have:=hb4.size;simp;omega) (fun e=>by have:=h.m.mv Y e.symm;have:=h.yh;omega)).trans (Below.heap_alloc w4 o Y (by have:=h.y.lt;have:=hb4.size;omega)));exact⟨y5.c1,y5.fz⟩
theorem St2.push {w wr w4 w5:World}{Y H:Nat}{v vn v':Value}{us un:List Raw}{ls ns:List (List Word)}{u:Raw}{p:List Word}{o:Obj}(h:St2 w wr Y H v vn us un ls ns)(hY:w.heap.size<Y)(hb4:Below wr.heap.size wr w4)(hu:Own w4 wr.heap.size 66 u.v p) (hown:Own w5 0 110 v' (un++[u])) (hg:(w4.alloc o).grownBy w5 vn.ownBlock) (hat:v'.ownBlock=vn.ownBlock∨v'.ownBlock=some (w4.alloc o).heap.size):
 St2 w (w5.setCell ⟨Y,1,none⟩ v') Y H v v' us (un++[u]) ls (ns++[p]):=by
 have hylt:=h.y.lt;have hz:=hb4.size;have hzH:=h.hz;have hyH:=h.yh;have hvB:∀g,vn.ownBlock=some g→H≤g:=h.m.mv;have keep:∀b,b<w4.heap.size→some b≠vn.ownBlock→w5.heap[b]? =w4.heap[b]? :=fun b hb hne=>(hg.block b (by simp;omega) hne).trans (Below.heap_alloc w4 o b hb)
 have y5:TBox w5 Y v vn:=(h.y.below hb4).kept (keep Y (by omega) (fun e=>by have:=hvB Y e.symm;omega));have x5:TBox w5 w.heap.size (.slice none 0 0) (.slice none 0 0):=(h.x.below hb4).kept (keep _ (by omega) (fun e=>by have:=hvB _ e.symm;omega));have n5:Nest w5 (fun g=>Y<g∧g<H) _ _ v us ls:=(h.n.below hb4).kept fun g hg' hB=>keep g hg' (fun e=>by have:=hvB _ e.symm;omega)
 have m5:Nest w5 (fun g=>H≤g) _ _ v' (un++[u]) (ns++[p]):=
  (Nest.push (B:=fun g=>H≤g∧g<wr.heap.size) (B':=fun g=>H≤g) (H:=(w4.alloc o).heap.size) ((h.m.mono fun g hg' hB=>⟨hB,hg'⟩).below hb4) (hu.re (Nat.zero_le _)) (fun g hg'=>by have:=hu.fit rfl g hg';exact⟨fun hh=>by have:=hh.2;omega,by omega⟩) keep hown hat (by simp) (fun g hh=>hh.1) (by simp;omega))
 have b4:Below w.heap.size w w4:=h.b.trans (hb4.mono h.b.size);have b5:Below w.heap.size w w5:=(b4.alloc b4.size o).grown hg (by have:=b4.size;simp;omega) (fun g hg'=>by have:=hvB g hg';omega);have hz5:=hg.size;refine⟨y5.set1 v',x5.other (by omega) v',n5.kept fun g hg' hB=>Qaa w5 Y 1 v' (by omega),m5.kept fun g hg' hB=>Qaa w5 Y 1 v' (by omega),b5.setCell (p:=⟨Y,1,none⟩) (by show w.heap.size≤Y;omega) v',?_,h.yh⟩;have:(w4.alloc o).heap.size=w4.heap.size+1:=by simp
 simp only[World.size_setCell];omega
theorem St2.below {w wr w':World}{Y H:Nat}{v vn:Value}{us un:List Raw}{ls ns:List (List Word)}(h:St2 w wr Y H v vn us un ls ns)(hb:Below wr.heap.size wr w'):St2 w w' Y H v vn us un ls ns:=
 ⟨h.y.below hb,h.x.below hb,h.n.below hb,h.m.below hb,h.b.trans (hb.mono h.b.size),Nat.le_trans h.hz hb.size,h.yh⟩
theorem GText.next {ls ns:List (List Word)}(h:GText ls ns)(k:Nat)(hk:k<ls.length){q p:List Word}(hq:Qdq ls[k] ((ns.length:Int)+1) true q)(hl:∀p∈ls.drop (k+1),Qc6 p)(hp:Qed 12 p)(h3:ns.length+1≤3):GText (ls.set k q) (ns++[p]):=by
 rcases hq with⟨h0,_⟩|⟨_,i,hi,h0,rfl⟩
 ·cases h0
 ·have hpk:=h.p ls[k] (List.getElem_mem hk);refine⟨by rw[List.length_set];exact h.l1,by rw[List.length_set];exact h.l4,by simp;omega,fun r hr=>?_,fun r hr=>?_,?_⟩
  ·rcases List.mem_or_eq_of_mem_set hr with hr|rfl
   ·exact h.p r hr
   ·rw[List.length_set];refine⟨hpk.1,hpk.2.1,fun x hx=>?_⟩;rcases List.mem_or_eq_of_mem_set hx with hx|rfl
    ·exact hpk.2.2 x hx
    ·exact(show Good ls[k][i] from hpk.2.2 _ (List.getElem_mem hi))
  ·rcases List.mem_append.1 hr with hr|hr
   ·exact h.q r hr
   ·rw[List.mem_singleton] at hr;subst hr;exact hp
  ·rw[seq_set ls k i hk hi _ (by omega) hl h0,h.s,qA,List.length_singleton,List.range_succ,List.map_append];rfl
theorem St2.stay {w wr w':World}{Y H:Nat}{v vn:Value}{us un:List Raw}{ls ns:List (List Word)}(h:St2 w wr Y H v vn us un ls ns)(hY:w.heap.size<Y)(i:Nat)(hi:i<us.length)(hi':i<ls.length){q:List Word}{g:Nat}{m:Int}(hg:us[i].v.ownBlock=some g) (hq:Qdq ls[i] m false q) (hown:Own w' 0 66 us[i].v q) (hgr:wr.grownBy w' (some g)):St2 w w' Y H v vn us un ls ns:=by
 rcases hq with⟨_,rfl⟩|⟨h0,_⟩
 ·have:=h.inner hY i hi hg hown hgr;rwa [List.set_getElem_self] at this
 ·cases h0
def IsText (w:World)(e:Ending)(w':World):Prop:=
 ∃v vn ls ns,e=.returned (.agg #[v,vn])∧GText ls ns∧(∃B us un,Nest w' (fun g=>w.heap.size≤g∧g<B) 110 66 v us ls∧Nest w' (fun g=>B≤g) 110 66 vn un ns)∧Below w.heap.size w w'
set_option maxRecDepth 100000 in
theorem text_any (A:Option Addr)(c:Nat)(l:List Int)(w:World)(hl:Sl w (fun b=>b<w.heap.size) A c l):
 Calls Tryz.prog 34 #[.slice A l.length c] w (IsText w):=by
 have hb0:=((Below.refl w.heap.size w).alloc nL (.cells #[.slice none 0 0,.slice none 0 0] 36));have hb1:=hb0.alloc (by simp) (.cells #[.slice none 0 0,.slice none 0 0] 36);have HB:=Lh hb1;have HL:=Lh hl;clear hl hb0 hb1;go_enter Tryz.func34,Tryz.ntmps34;go_wp2_with fail;have hx:TBox ((w.alloc (.cells #[.slice none 0 0,.slice none 0 0] 36)).alloc (.cells #[.slice none 0 0,.slice none 0 0] 36)) w.heap.size (.slice none 0 0) (.slice none 0 0):=⟨(Below.heap_alloc _ _ _ (by simp)).trans (Qak rfl)⟩;have hy:TBox ((w.alloc (.cells #[.slice none 0 0,.slice none 0 0] 36)).alloc (.cells #[.slice none 0 0,.slice none 0 0] 36)) (w.heap.size+1) (.slice none 0 0) (.slice none 0 0):=⟨Qak (by simp)⟩;generalize ((w.alloc (.cells #[.slice none 0 0,.slice none 0 0] 36)).alloc (.cells #[.slice none 0 0,.slice none 0 0] 36))=w1 at*;have S0:St1 w w1 (w.heap.size+1) 0 (.slice none 0 0) [] []:=⟨hy,hx,Nest.nil _ _ _ _,rfl,fun _ h=>(by cases h),HB.out⟩;have HS0:=Lh S0;clear hx hy S0;have hYX:w.heap.size<w.heap.size+1:=by omega
 generalize w.heap.size+1=Y at*;refine(Qa7 A c l 1 4 _ (HL.out.to HB.out) (by decide) (by decide) (by decide)).mono ?_;rintro e w' ⟨r0,rfl,hr0,rfl⟩;clear HB;go_wp2_with fail;go_loopw [5] (fun i wr=>∃k:Nat,k≤4∧i=.int .i64 k∧∃v us ls,Hid (St1 w wr Y k v us ls)) (fun i _=>5-(intOf i).toNat);(case atStart=>exact⟨0,by omega,rfl,_,_,_,HS0⟩);case round=>
  obtain⟨k,hk,rfl,v,us,ls,hst⟩:=hrel;have hk0:0≤(k:Int):=(by omega);go_wp2_with fail;refine(Qa7 A c l 0 4 _ (HL.out.to hst.out.b) (by decide) (by decide) (by decide)).mono ?_;rintro e w' ⟨r,rfl,hr,rfl⟩;by_cases hkr:k≤r
  ·have hkr':(k:Int)≤(r:Int):=by omega
   have hk3:(k:Int)≤3:=(by omega);have hle:us.length≤4:=(by have:=hst.out.n.len;have:=hst.out.l;omega);obtain⟨A1,c1,rfl,_,_⟩:=hst.out.n.own.form;have t0:=hst.out.y.c0;have hsz:=hst.out.b.size;have hw2:IntKind.i64.wrap (2+(k:Int))=2+(k:Int):=(by rw[IntWalk.i64_in _ (by omega)]);have hw3:0≤2+(k:Int):=(by omega);go_wp2_with fail
   go_region_law (first|(rw[if_pos (by rfl)];go_simp;go_at_call 77;refine(Qa7 A c l (2+(k:Int)) 1000000 _ (HL.out.to hst.out.b.drew) (by decide) (by decide) hw3).mono ?_;rintro e w' ⟨r2,rfl,hr2,rfl⟩)|(rw[if_pos (by rfl)];go_simp;go_at_call 78;refine(part_any r2 40 (by omega) (by decide) (by decide) _).mono ?_;rintro e w4 ⟨vp,rfl,p,hown4,hplen,hpg,hb4'⟩;have hb4:=(Below.refl wr.heap.size wr).drew.trans hb4';clear hb4';have t4:=(hb4.cell (p:=⟨Y,0,none⟩) hst.out.y.lt).trans t0;obtain⟨Ap,cp,rfl,_,_⟩:=hown4.form;have HPL:=Lh hplen;have HPG:=Lh hpg;clear hplen hpg;have n4:=fun ob=>((hst.out.y.below hb4).below (bR.alloc nL ob)).c0)|((refine step_push (α:=Raw) _ (by rfl) (.tmp 18) (.tmp 24) 34 (by rfl) 0 110 (.slice none 0 0) 24 Tryz.underlying34 raw_info rfl (by decide) _ us (by rfl) ((hst.out.n.own.below hb4).alloc _) w4.heap.size _ ⟨.slice Ap p.length cp,rfl⟩ (0,0) 110 (by rfl) (heap_alloc_new w4 _) rfl (by omega) (by omega) (by simp) _ rfl ?_);intro g cap w5 hown5 hg5 hat5 hlt5;obtain⟨t5,z5⟩:=St1.cell hst.out hYX hb4 hg5)|fail)
   (all_goals go_wp2_with fail);(all_goals go_roundw);all_goals first
    |exact⟨k+1,by omega,by go_num,_,_,_,St1.push (u:=⟨.slice Ap p.length cp,rfl⟩) hst.out hYX hb4 (hown4.re nL) ⟨by rw[HPL.out];omega,by rw[HPL.out];omega,HPG.out⟩ hown5 hg5 (by rcases hat5 with e|e;exact .inl e.symm;exact .inr (by rw[e];rfl))⟩
    |(simp[intOf];omega)
  ·have hkr':¬(k:Int)≤(r:Int):=by omega
   have hk1:1≤k:=(by omega);have hst2:=Lh hst.out.next;have hl4:=hst.out.l;have hf:=Lh hst.out.f;have HT:Hid (GText ls []):=Lh ⟨by omega,by omega,by simp,fun p hp=>⟨(hf.out p hp).1,(hf.out p hp).2.1,fun x hx=>((hf.out p hp).2.2 x hx).1⟩,fun p hp=>(by cases hp),seqOf_none fun p hp x hx=>((hf.out p hp).2.2 x hx).2⟩;clear hst hf;generalize wr.heap.size=H at*;go_wp2_with fail;go_loopw [6,7,8] (fun i _ _ wr=>∃k:Nat,k≤r0∧i=.int .i64 k∧∃ls ns vn un,Hid (St2 w wr Y H v vn us un ls ns)∧Hid (GText ls ns)∧ns.length≤k) (fun i _ _ _=>r0-(intOf i).toNat);(case atStart=>exact⟨0,by omega,rfl,ls,[],_,[],hst2,HT,by simp⟩);case round=>
    clear hst2 HT hl4;obtain⟨k2,hk2,rfl,ls,ns,vn,un,hst,hgt,hnk⟩:=hrel;have hk20:0≤(k2:Int):=(by omega);by_cases hlt:k2<r0
    ·have hlt':(k2:Int)<(r0:Int):=by omega
     have hw6:IntKind.i64.wrap (6+(k2:Int))=6+(k2:Int):=(by rw[IntWalk.i64_in _ (by omega)]);have hw60:0≤6+(k2:Int):=(by omega);go_wp2_with fail;refine(Qa7 A c l (6+(k2:Int)) 1000000 _ (HL.out.to hst.out.b) (by decide) (by decide) (by omega)).mono ?_;rintro e w' ⟨r2,rfl,hr2,rfl⟩;have hlens:∀p∈ls,p.length<9223372036854775808:=fun p hp=>by have:=(hgt.out.p p hp).2.1;omega
     have hlensn:∀p∈ns,p.length<9223372036854775808:=fun p hp=>by have:=(hgt.out.q p hp).2.1;omega
     obtain⟨A1,c1,rfl,_⟩:=hst.out.n.sl hlens;obtain⟨A2,c2,rfl,_⟩:=hst.out.m.sl hlensn;have HLS:=Lh hlens;have hn3:ns.length≤3:=(by omega);have hl4:=hgt.out.l4;have hwn:IntKind.i64.wrap ((ns.length:Int)+1)=(ns.length:Int)+1:=(by rw[IntWalk.i64_in _ (by omega)]);clear hlens hlensn;go_wp2_with fail;go_loopw [8] (fun i wr3=>∃j:Nat,j≤ls.length∧i=.int .i64 j∧Hid (St2 w wr3 Y H (.slice A1 ls.length c1) (.slice A2 ns.length c2) us un ls ns)) (fun i _=>ls.length-(intOf i).toNat);(case atStart=>exact⟨0,by omega,rfl,hst⟩);case round=>
      clear hst;obtain⟨j,hj,rfl,hst⟩:=hrel;have t0:=hst.out.y.c0;have t1:=hst.out.y.c1;have hj0:0≤(j:Int):=(by omega);have hj4:(j:Int)≤4:=(by omega);by_cases hjl:j<ls.length
      ·have hjl':(j:Int)<(ls.length:Int):=by omega
       obtain⟨gv,cap,hu,ev,hgl,hB,_,hcell,hfz⟩:=hst.out.n.at_ hjl;obtain⟨rfl,rfl⟩:A1=some ⟨gv,0,none⟩∧c1=cap:=by have:=Value.slice.inj ev;exact⟨this.1,this.2.2⟩
       have hpj:=hgt.out.p ls[j] (List.getElem_mem hjl);obtain⟨gk,capk,es,ek,_,hgk,hrest⟩:=(hst.out.n.inn j hu hjl).at_ (k:=0) (by omega);clear hrest;have hrow:=hst.out.n.inn j hu hjl;have EK:=Lh (show us[j].v.ownBlock=some gk by rw[ek];rfl);rw[ek] at hcell;have HEK:=Lh ek;rw[ek] at hrow;have HROW:=Lh hrow;have hlj:ls[j].length≤40:=hpj.2.1;obtain⟨As,cs,es2,hsl⟩:=hst.out.n.sl HLS.out;obtain⟨rfl,rfl⟩:As=some ⟨gv,0,none⟩∧cs=c1:=by have:=Value.slice.inj es2;exact⟨this.1.symm,this.2.2.symm⟩
       have HSL:=Lh hsl;have hYg:some Y≠some gk:=fun e=>by have:=(hst.out.n.mi j hu gk EK.out).1;injection e with e;omega
       have hvg:some gv≠some gk:=hst.out.n.ne j hu gk EK.out;clear ev es2 hsl hrow ek hfz;go_wp2_with fail
       go_region_held3 (fun w'=>w'.cell? ⟨Y,0,none⟩=some (.slice (some ⟨gv,0,none⟩) ls.length cs)∧w'.cell? ⟨Y,1,none⟩=some (.slice A2 ns.length c2)∧w'.cell? ⟨gv,j,none⟩=some (.slice (some ⟨gk,0,none⟩) ls[j].length capk)) (go_keep)
        (first|(go_at_call 80;refine(last_any _ _ ls j _ HSL.out.drew (by omega)).mono ?_;rintro e w5 ⟨b5,rfl,hb5,rfl⟩)|(go_at_call 79;refine(refer_any gk capk ls[j] r2 ((ns.length:Int)+1) b5 _ HROW.out.drew (by omega) (by omega) (by omega) (by omega)).mono ?_;rintro e w6 ⟨b6,rfl,q6,hq6,hl6,hlq6,hown6,hg6⟩;have hg6':=(grown_drew (World.grownBy.refl wr (some gk))).trans hg6;have f0:=hg6'.cell t0 hYg;have f1:=hg6'.cell t1 hYg;have f2:=hg6'.cell hcell hvg)|fail)
       clear hcell f2 hYg hvg;cases b6 with
       |false=>
        have hst2:=Lh (hst.out.stay hYX j hu hjl EK.out hq6 (by rw[HEK.out];exact hown6) hg6');clear hq6 hb5 hl6 hlq6 hown6 hg6 hg6' t0 t1 hwn;unfold Exit.then;go_wp2_with fail;go_roundw;(case rel=>exact⟨j+1,by omega,by go_num,hst2⟩);case measure=>simp[intOf];omega
       |true=>
        have hst2:=Lh (hst.out.inner hYX j hu EK.out (by rw[HEK.out];exact hown6) hg6');have HLF:=Lh (hb5 (hl6 rfl));have HQ6:=Lh hq6;clear hq6 hb5 hl6 hlq6 hown6 hg6 hg6' t0 t1 hwn;unfold Exit.then;go_wp2_with fail
        go_region_law (first|(rw[if_pos (by rfl)];go_simp;go_at_call 78;refine(part_any r2 12 (by omega) (by decide) (by decide) _).mono ?_;rintro e w7 ⟨vp,rfl,p,hown7,hplen,hpg,hb7'⟩;have hb7:=(Below.refl w6.heap.size w6).drew.trans hb7';clear hb7';have t7:=(hb7.cell (p:=⟨Y,1,none⟩) hst2.out.y.lt).trans f1;obtain⟨Ap,cp,rfl,_,_⟩:=hown7.form;have HPL:=Lh hplen;have HPG:=Lh hpg;clear hplen hpg;have n7:=fun ob=>((hst2.out.y.below hb7).below (bR.alloc nL ob)).c1)|((refine step_push (α:=Raw) _ (by rfl) (.tmp 67) (.tmp 70) 34 (by rfl) 0 110 (.slice none 0 0) 24 Tryz.underlying34 raw_info rfl (by decide) _ un (by rfl) ((hst2.out.m.own.below hb7).alloc _) w7.heap.size _ ⟨.slice Ap p.length cp,rfl⟩ (0,0) 110 (by rfl) (heap_alloc_new w7 _) rfl (by have:=hst2.out.m.len;omega) (by have:=hst2.out.m.len;omega) (by simp) _ rfl ?_);intro g cap8 w8 hown8 hg8 hat8 hlt8;obtain⟨t8,z8⟩:=St2.cells hst2.out hb7 hg8)|fail)
        (all_goals go_wp2_with fail);(all_goals go_roundw);all_goals first
         |exact⟨k2+1,by omega,by go_num,_,_,_,_,St2.push (u:=⟨.slice Ap p.length cp,rfl⟩) hst2.out hYX hb7 (hown7.re nL) hown8 hg8 (by rcases hat8 with e|e;exact .inl e.symm;exact .inr (by rw[e];rfl)),hgt.out.next j hjl HQ6.out HLF.out ⟨by rw[HPL.out];omega,by rw[HPL.out];omega,HPG.out⟩ (by omega),by simp;omega⟩
         |(simp[intOf];omega)
      ·have hjl':¬(j:Int)<(ls.length:Int):=by omega
       go_wp2_with fail;go_quiet (fail);have hst2:=Lh (hst.out.below (Below.dn bR nq));go_wp2_with fail;go_roundw;(case rel=>exact⟨k2+1,by omega,by go_num,ls,ns,_,un,hst2,hgt,by omega⟩);case measure=>simp[intOf];omega
    ·have hlt':¬(k2:Int)<(r0:Int):=by omega
     have hlens:∀p∈ls,p.length<9223372036854775808:=fun p hp=>by have:=(hgt.out.p p hp).2.1;omega
     have hlensn:∀p∈ns,p.length<9223372036854775808:=fun p hp=>by have:=(hgt.out.q p hp).2.1;omega
     obtain⟨A1,c1,rfl,_⟩:=hst.out.n.sl hlens;obtain⟨A2,c2,rfl,_⟩:=hst.out.m.sl hlensn;have t0:=hst.out.y.c0;have t1:=hst.out.y.c1;have x0:=hst.out.x.c0;have x1:=hst.out.x.c1;have hfz:=hst.out.x.fz;have hz:=hst.out.b.size;have hyx:=hst.out.y.lt;go_wp2_with fail;refine bodyPost_ret (v:=.agg #[.slice A1 ls.length c1,.slice A2 ns.length c2]) (by simp[results,Tryz.results34,go_sem,x0,x1]) rfl ⟨_,_,ls,ns,rfl,hgt.out,⟨H,us,un,?_,?_⟩,?_⟩
     ·exact(hst.out.n.kept fun g hg hB=>((Qaa _ _ 1 _ (by omega)).trans (Qaa _ _ 0 _ (by omega)))).mono fun g _ hB=>⟨by omega,hB.2⟩
     ·exact hst.out.m.kept fun g hg hB=>by have:=hst.out.yh;exact((Qaa _ _ 1 _ (by omega)).trans (Qaa _ _ 0 _ (by omega)))
     ·exact(hst.out.b.setCell (p:=⟨w.heap.size,0,none⟩) nL _).setCell (p:=⟨w.heap.size,1,none⟩) nL _
theorem tot_bd (m:Nat):∀(l:List (List Word)),(∀p∈l,p.length≤m)→tot l≤l.length*m
 |[],_=>by simp[tot]
 |p::l,h=>by
  have h1:=h p (List.mem_cons_self ..);have h2:=tot_bd m l (fun q hq=>h q (List.mem_cons_of_mem _ hq));have e:tot (p::l)=p.length+tot l:=(by unfold tot;rw[List.flatten_cons,qA]);rw[e,qC,Nat.add_mul,Nat.one_mul];omega
theorem GText.tot {ls ns:List (List Word)}(h:GText ls ns):tot (ls++ns)≤196:=by
 rw[QaZ];have h1:=tot_bd 40 ls (fun p hp=>(h.p p hp).2.1);have h2:=tot_bd 12 ns (fun p hp=>(h.q p hp).2.1);have h3:ls.length*40≤4*40:=Nat.mul_le_mul_right _ h.l4;have h4:ns.length*12≤3*12:=Nat.mul_le_mul_right _ h.n3;omega
structure TX (w:World)(A:Option Addr)(c:Nat)(B:Option Addr)(d:Nat)(a b:List (List Word)):Prop where
 sa:Sl w (fun b=>b<w.heap.size) A c a
 sb:Sl w (fun b=>b<w.heap.size) B d b
 la:a.length≤1048576
 lb:b.length≤1048576
 t:tot (a++b)≤1048576
theorem GText.lens {ls ns:List (List Word)}(h:GText ls ns):(∀p∈ls,p.length<9223372036854775808)∧(∀p∈ns,p.length<9223372036854775808):=
 ⟨fun p hp=>by have:=(h.p p hp).2.1;omega,fun p hp=>by have:=(h.q p hp).2.1;omega⟩
def up:Int→Nat→List Int
 |_,0=>[]
 |a,m+1=>(a+1)::up (a+1) m
theorem up_range:∀(n:Nat) (a:Int),(List.range n).map (fun i:Nat=>a+((i:Int)+1))=up a n
 |0,_=>rfl
 |n+1,a=>by
  rw[List.range_succ_eq_map,List.map_cons,List.map_map,up,←up_range n (a+1)];congr 1;apply List.map_congr_left;intro i _;simp only[Function.comp];omega
theorem up_split:∀(l1 l2:List Int) (a:Int) (m:Nat),l1++l2=up a m→l1=up a l1.length∧l2=up (a+l1.length) l2.length∧m=l1.length+l2.length
 |[],l2,a,m,h=>by
  have hl:l2.length=m:=by
   have:∀(m:Nat) (a:Int),(up a m).length=m:=by
    intro m;induction m with
    |zero=>intro a;rfl
    |succ m ih=>intro a;rw[up,qC,ih]
   have h':=congrArg List.length h;rw[this] at h';simpa using h'
  subst hl;refine⟨rfl,?_,by simp⟩;simpa using h
 |x::l1,l2,a,0,h=>by simp[up] at h
 |x::l1,l2,a,m+1,h=>by
  rw[List.cons_append,up] at h;obtain⟨h1,h2⟩:=List.cons.inj h;obtain⟨e1,e2,e3⟩:=up_split l1 l2 (a+1) m h2;refine⟨by rw[qC,up,←e1,h1],?_,by rw[qC];omega⟩;rw[qC,show a+((l1.length+1:Nat):Int)=a+1+l1.length by omega];exact e2
theorem seqOf_cons (x:Word)(r:List Word):QaO (x::r)=if x.n=0 then QaO r else x.n::QaO r:=by
 unfold QaO;rw[List.map_cons];by_cases h:x.n=0
 ·rw[if_pos h,List.filter_cons_of_neg (by simp[h])]
 ·rw[if_neg h,List.filter_cons_of_pos (by simp[h])]
def Fine (x:Word):Prop:=badW x=false∧(x.t=0∨x.t=1)
theorem Qc0 {np nn i:Nat}(hi:i<np):∀(p:List Word) (notes:Int) (m:Nat),(∀x∈p,Fine x)→QaO p=up notes m→notes+m≤nn→QaI np nn i notes p=(0,notes+m)
 |[],notes,m,_,hs,_=>by
  have:m=0:=by
   cases m with
   |zero=>rfl
   |succ m=>simp[QaO,up] at hs
  subst this;simp[QaI]
 |x::r,notes,m,hf,hs,hn=>by
  have hx:=hf x (List.mem_cons_self ..);have hr:∀y∈r,Fine y:=fun y hy=>hf y (List.mem_cons_of_mem _ hy)
  rw[seqOf_cons] at hs;by_cases h0:x.n=0
  ·rw[if_pos h0] at hs;rw[QaI,Qb9 hx.1 hx.2 h0,if_pos rfl];exact Qc0 hi r notes m hr hs hn
  ·rw[if_neg h0] at hs;cases m with
   |zero=>simp[up] at hs
   |succ m=>
    rw[up] at hs;obtain⟨h1,h2⟩:=List.cons.inj hs;rw[QaI,QdA hx.1 hx.2 h0 (by rintro(h|h|h)<;>omega),if_pos rfl];rw[Qc0 hi r (notes+1) m hr h2 (by omega)];simp only[Prod.mk.injEq,true_and];omega
theorem scanW_none {np nn i:Nat}:∀(p:List Word) (notes:Int),(∀x∈p,Fine x∧x.n=0)→QaI np nn i notes p=(0,notes)
 |[],notes,_=>rfl
 |x::r,notes,hf=>by
  have hx:=hf x (List.mem_cons_self ..);rw[QaI,Qb9 hx.1.1 hx.1.2 hx.2,if_pos rfl];exact scanW_none r notes (fun y hy=>hf y (List.mem_cons_of_mem _ hy))
theorem scanP_none {np nn:Nat}:∀(l:List (List Word)) (i:Nat) (notes:Int),(∀p∈l,∀x∈p,Fine x∧x.n=0)→Qbs np nn i notes l=(0,notes)
 |[],_,_,_=>rfl
 |p::r,i,notes,hf=>by
  rw[Qbs,scanW_none p notes (hf p (List.mem_cons_self ..)),if_pos rfl];exact scanP_none r (i+1) notes (fun q hq=>hf q (List.mem_cons_of_mem _ hq))
theorem scanP_fine {np nn:Nat}(R:List (List Word)):∀(l:List (List Word)) (i:Nat) (notes:Int) (m:Nat),i+l.length≤np→(∀p∈l,∀x∈p,Fine x)→QaO l.flatten=up notes m→notes+m≤nn→Qbs np nn i notes (l++R)=Qbs np nn (i+l.length) (notes+m) R
 |[],i,notes,m,_,_,hs,_=>by
  have:m=0:=by
   cases m with
   |zero=>rfl
   |succ m=>simp[QaO,up] at hs
  subst this;simp
 |p::r,i,notes,m,hi,hf,hs,hn=>by
  rw[qC] at hi;rw[List.flatten_cons,QaJ] at hs;obtain⟨e1,e2,e3⟩:=up_split _ _ _ _ hs;have h1:=Qc0 (np:=np) (nn:=nn) (i:=i) (by omega) p notes _ (hf p (List.mem_cons_self ..)) e1 (by omega);rw[List.cons_append,Qbs,h1,if_pos rfl];rw[scanP_fine R r (i+1) _ _ (by omega) (fun q hq=>hf q (List.mem_cons_of_mem _ hq)) e2 (by omega)];rw[qC];congr 1
  ·omega
  ·omega
theorem chk_fine (ls ns:List (List Word))(h1:ls.length≤100)(h2:ns.length≤100)(hl:∀p∈ls++ns,1≤p.length∧p.length≤500)(hf:∀p∈ls,∀x∈p,Fine x)(hn:∀p∈ns,∀x∈p,Fine x∧x.n=0)(hs:QaO ls.flatten=up 0 ns.length):QdZ ls ns=0:=by
 have a1:QaT Qd1 (ls++ns)=false:=by
  unfold QaT;rw[List.any_eq_false];intro p hp;have:=(hl p hp).2;simp[Qd1];omega
 have a2:QaT Qci (ls++ns)=false:=by
  unfold QaT;rw[List.any_eq_false];intro p hp;have:=(hl p hp).1;simp[Qci];intro e;rw[e] at this;simp at this
 unfold QdZ;rw[if_neg (by rw[a1];simp;omega),if_neg (by rw[a2];simp)];rw[scanP_fine ns ls 0 0 ns.length (by omega) hf hs (by omega),scanP_none ns _ _ hn];unfold endP;rw[if_neg (by simp),if_neg (by simp)]
theorem Good.fine {x:Word}(h:Good x):Fine x:=by
 refine⟨?_,h.2.2⟩;by_cases hk:x.key=⟨#[]⟩
 ·exact good_nokey h.1 hk
 ·exact good_key h.1 (h.2.1.resolve_left hk)
theorem GText.seq {ls ns:List (List Word)}(h:GText ls ns):QaO ls.flatten=up 0 ns.length:=by
 rw[h.s,←up_range];apply List.map_congr_left;intro i _;omega
theorem GText.chk {ls ns:List (List Word)}(h:GText ls ns):QdZ ls ns=0:=
 chk_fine ls ns (by have:=h.l4;omega) (by have:=h.n3;omega)
  (fun p hp=>by
    rcases List.mem_append.1 hp with hp|hp
    ·have:=h.p p hp;exact⟨this.1,by have:=this.2.1;omega⟩
    ·have:=h.q p hp;exact⟨this.1,by have:=this.2.1;omega⟩)
  (fun p hp x hx=>((h.p p hp).2.2 x hx).fine) (fun p hp x hx=>⟨((h.q p hp).2.2 x hx).1.fine,((h.q p hp).2.2 x hx).2⟩) h.seq
theorem Qcz (a b:List Word):QaA (a++b)=QaA a++QaA b:=by unfold QaA;rw[List.filter_append,List.map_append]
theorem cut_drop {α:Type}(l:List α){i e:Nat}(h:i≤e)(he:e≤l.length):Qdi l i e++l.drop e=l.drop i:=by
 unfold Qdi;have h1:l.drop i=(l.take e++l.drop e).drop i:=by rw[List.take_append_drop]
 rw[h1,List.drop_append_of_le_length (by rw[qK];omega)]
def endsF:Nat→Nat→List Nat→Prop
 |i,n,[]=>i=n
 |i,n,e::es=>i<e∧e≤n∧endsF e n es
theorem Qdu (es:List Nat)(n:Nat)(he:∀i,i<n→i<es.getD i 0∧es.getD i 0≤n):∀f i,n-i≤f→i≤n→endsF i n (chainE es n f i)
 |0,i,hf,hi=>by
  show i=n;omega
 |f+1,i,hf,hi=>by
  rw[chainE];split
  ·rename_i h;obtain⟨h1,h2⟩:=he i h;exact⟨h1,h2,Qdu es n he f _ (by omega) h2⟩
  ·show i=n;omega
theorem QcY {ws:List Word}{m:Int}(hr:Reg (Qad ws) m):endsF 0 ws.length (endsP (Qad ws) m):=by
 have hl:(Qad ws).length=ws.length:=by unfold Qad;simp
 have h:=Qdu _ _ (endsP_he hr) (Qad ws).length 0 (by omega) (Nat.zero_le _);rw[←hl];exact h
theorem Qb3 (ws:List Word)(wd:List Int)(m first:Int):∀(es:List Nat) (i:Nat),endsF i ws.length es→(Qan ws wd m first i es).flatMap (·.notes)=QaA (ws.drop i)
 |[],i,h=>by
  have:i=ws.length:=h;subst this;simp[Qan,QaA]
 |e::es,i,h=>by
  obtain⟨h1,h2,h3⟩:=h;rw[Qan,List.flatMap_cons,Qb3 ws wd m first es e h3];show QaA (Qdi ws i e)++QaA (ws.drop e)=_;rw[←Qcz,cut_drop ws (Nat.le_of_lt h1) h2]
theorem setP_notes {ws:List Word}{m:Int}(first:Int)(hr:Reg (Qad ws) m):(QdN ws first m).flatMap (·.notes)=QaA ws:=by
 unfold QdN;have h:=QcY hr;rw[Qb3 ws _ m first _ 0 h,List.drop_zero]
theorem QdO {m:Int}:∀(a:List (List Word)) (first:Int),(∀p∈a,Reg (Qad p) m)→(Qar m first a).flatten.flatMap (·.notes)=QaA a.flatten
 |[],_,_=>rfl
 |p::a,first,h=>by
  rw[Qar,List.flatten_cons,List.flatMap_append,setP_notes first (h p (by simp)),QdO a _ (fun q hq=>h q (by simp[hq])),List.flatten_cons,Qcz]
theorem notesP_seq (l:List Word):QaA l=(QaO l).map (· - 1):=by
 induction l with
 |nil=>rfl
 |cons x l ih=>
  rw[seqOf_cons];by_cases hx:x.n=0
  ·rw[if_pos hx,←ih];unfold QaA;rw[List.filter_cons_of_neg (by simp[hx])]
  ·rw[if_neg hx,List.map_cons,←ih];unfold QaA;rw[List.filter_cons_of_pos (by simp[hx]),List.map_cons]
theorem nextN_up (n:Nat):∀(j:Nat) (a:Int),0≤a→a+j≤n→Qbc n a ((up a j).map (· - 1))=some (a+j)
 |0,a,_,_=>by simp[up,Qbc]
 |j+1,a,h0,h=>by
  rw[up,List.map_cons,Qbc,if_neg (by omega)];rw[nextN_up n j (a+1) (by omega) (by omega)];congr 1;omega
theorem setP_ne {ws:List Word}{m:Int}(first:Int)(hr:Reg (Qad ws) m)(hw:1≤ws.length):QdN ws first m≠[]:=by
 have h:=QcY hr;intro e;have h2:=Qbd ws (Qad ws) m first (endsP (Qad ws) m) 0
 have h3:(QdN ws first m).length=0:=by rw[e];rfl
 unfold QdN at h3;rw[h3] at h2;rw[List.eq_nil_of_length_eq_zero h2.symm] at h;have:0=ws.length:=h;omega
theorem parts_ne {m:Int}:∀(a:List (List Word)) (first:Int),(∀p∈a,Reg (Qad p) m∧1≤p.length)→(Qar m first a).any (fun l=>decide (l=[]))=false
 |[],_,_=>rfl
 |p::a,first,h=>by
  have hp:=h p (by simp);rw[Qar,List.any_cons,parts_ne a _ (fun q hq=>h q (by simp[hq])),decide_eq_false (setP_ne first hp.1 hp.2)];rfl
theorem GText.fine {a b:List (List Word)}(hg:GText a b):FineT a b:=chk_zero hg.chk
theorem GText.textE {a b:List (List Word)}(hg:GText a b){m h:Int}(hm:500≤m∧m≤2000)(hh:4≤h∧h≤100):textE a b m h=0:=by
 have hf:=hg.fine;have hl:Qbf a b m=0:=by unfold Qbf;rw[if_neg (by rw[hg.chk];simp),if_pos hm]
 unfold Go.Proofs.YtegaapiocihcpaaGreatDoor.textE;rw[if_neg (by rw[hl];simp)];unfold QaX;have hr:∀p∈a++b,Reg (Qad p) m∧1≤p.length:=fun p hp=>⟨hf.reg hm.1 hm.2 hp,(hf.p p hp).1⟩
 rw[if_neg (by omega)];have h1:(Qal a b m).any (fun l=>decide (l=[]))=false:=parts_ne b _ (fun p hp=>hr p (by simp[hp]));rw[h1,if_neg (by simp)]
 have h2:(QaL a m).flatMap (·.notes)=(up 0 b.length).map (· - 1):=by
  unfold QaL;rw[QdO a 0 (fun p hp=>(hr p (by simp[hp])).1),notesP_seq,hg.seq]
 have h3:(Qal a b m).length=b.length:=Qa2 m b _;rw[h2,h3,nextN_up b.length b.length 0 (by omega) (by omega)];simp
theorem GText.wrong {a b:List (List Word)}(hg:GText a b){m h:Int}(hm:500≤m∧m≤2000)(hh:4≤h∧h≤100):Qa5 m h a b=0:=by
 unfold Qa5;rw[if_neg (by rw[hg.textE hm hh];simp),if_neg];have h1:=hg.l1;rw[QaZ];intro e;have h2:Go.Proofs.YtegaapiocihcpaaGreatDoor.tot a=0:=by omega
 obtain⟨p,ps,rfl⟩:∃p ps,a=p::ps:=by
  cases a with
  |nil=>simp at h1
  |cons p ps=>exact⟨p,ps,rfl⟩
 have h3:=(hg.p p (by simp)).1;unfold Go.Proofs.YtegaapiocihcpaaGreatDoor.tot at h2;rw[List.flatten_cons,qA] at h2;omega
theorem GText.pages {a b:List (List Word)}(hg:GText a b){m h:Int}(hm:500≤m∧m≤2000)(hh:4≤h∧h≤100):Qag a b m h=Qay a b m h.toNat∧(Qag a b m h).length≤196:=by
 have hE:=hg.textE hm hh;have he:Qag a b m h=Qay a b m h.toNat:=by unfold Qag;rw[if_pos hE]
 refine⟨he,?_⟩;obtain⟨hf,-,hp⟩:=Qa0 hE;rw[he];have e1:=QbJ (Qal a b m) h.toNat (Qaj (QaL a m) (Qal a b m)) (QaL a m) [];have e2:=QcJ hp;have e3:=Qbj m a 0 (fun p hp=>hf.reg hm.1 hm.2 (by simp[hp]));have e4:=Qbj m b (Go.Proofs.YtegaapiocihcpaaGreatDoor.tot a:Nat) (fun p hp=>hf.reg hm.1 hm.2 (by simp[hp]));have e5:=hg.tot;rw[QaZ] at e5;unfold QaL Qal at*;unfold Qay QaL Qal;omega
theorem GText.short {a b:List (List Word)}(hg:GText a b):Qbp a∧Qbp b:=
 ⟨⟨by have:=hg.l4;omega,fun p hp=>by have:=(hg.p p hp).2.1;omega⟩,⟨by have:=hg.n3;omega,fun p hp=>by have:=(hg.q p hp).2.1;omega⟩⟩
theorem Own.slB {α:Type}[Rep α][Flat α]{w:World}{base:Nat}{e:TypeId}{v:Value}{l:List α}(h:Own w base e v l):∃A c,v=.slice A l.length c∧Sl w (fun b=>v.ownBlock=some b) A c l:=by
 obtain⟨A,c,rfl,hs⟩:=h.sl;refine⟨A,c,rfl,hs.1,hs.2.1,fun hn=>?_⟩;obtain⟨b,o,rfl,hb,hlt,hx⟩:=hs.2.2 hn;refine⟨b,o,rfl,rfl,hlt,fun i hi=>?_⟩;obtain⟨es,hr,hc⟩:=hx i hi;exact⟨es,Flat.flat hr,hc⟩
theorem Nest.slB {w:World}{B:Nat→Prop}{te ti:TypeId}{v:Value}{us:List Raw}{ls:List (List Word)}(h:Nest w B te ti v us ls)(hlen:∀l∈ls,l.length<9223372036854775808):∃A c,v=.slice A ls.length c∧Sl w B A c ls:=by
 obtain⟨A,c,e0,hs⟩:=h.own.sl;refine⟨A,c,by rw[e0,h.len],by rw[←h.len];exact hs.1,hs.2.1,fun hn=>?_⟩;obtain⟨b,o,rfl,hb,hlt,hx⟩:=hs.2.2 (by rw[h.len];exact hn);refine⟨b,o,rfl,h.mv b (by rw[e0];rfl),hlt,fun i hi=>?_⟩;have hi':i<us.length:=by rw[h.len];exact hi
 obtain⟨es,hr,hc⟩:=hx i hi';obtain⟨A1,c1,e1,hs1⟩:=(h.inn i hi' hi).slB;have hr':es=[us[i].v]:=hr;exact⟨es,⟨A1,c1,by rw[hr',e1],hs1.mono fun g hg _=>h.mi i hi' g hg,hlen _ (List.getElem_mem hi)⟩,hc⟩
def IsT (w:World)(e:Ending)(w':World):Prop:=
 ∃A c B d ls ns,e=.returned (.agg #[.slice A ls.length c,.slice B ns.length d])∧GText ls ns∧Rep.R w' (fun b=>w.heap.size≤b) [.slice A ls.length c,.slice B ns.length d] (⟨ls,ns⟩:TextP)∧Below w.heap.size w w'
theorem IsText.own {w w':World}{e:Ending}(h:IsText w e w'):IsT w e w':=by
 obtain⟨v,vn,ls,ns,rfl,hg,⟨B,us,un,h1,h2⟩,hb⟩:=h;have hle:=h1.own.lt;have hl4:=hg.l4;have hn3:=hg.n3;obtain⟨g0,_,_,_,_,hg0,_⟩:=h1.at_ (k:=0) (by have:=hg.l1;omega);obtain⟨A,c,rfl,hs⟩:=h1.slB hg.lens.1;obtain⟨A',c',rfl,hs'⟩:=h2.slB hg.lens.2;refine⟨A,c,A',c',ls,ns,rfl,hg,⟨_,_,rfl,⟨A,c,rfl,hs.mono fun i hi _=>hi.1,by dsimp only;omega⟩,⟨A',c',rfl,hs'.mono fun i hi _=>by have:B≤i:=hi;have:=hg0.1;have:=hg0.2;omega,by dsimp only;omega⟩⟩,hb⟩
theorem rtext_any (A:Option Addr)(c:Nat)(l:List Int)(k:Nat)(_:k≤1000)(w:World)(hl:Sl w (fun b=>b<w.heap.size) A c l):
 Calls Tryz.prog 94 #[.slice A l.length c,.int .i64 (k:Int)] w (IsT w):=by
 have hl1:=hl.1;have hl2:c≤9223372036854775807:=hl.2.1;obtain⟨j,hj⟩:∃j,min k l.length=j:=⟨_,rfl⟩;have hjl:j≤l.length:=by omega
 have hd:=hl.drop j hjl;have hm:min (k:Int) (l.length:Int)=(j:Int):=by omega
 have hlen:(l.drop j).length=l.length-j:=List.length_drop;obtain⟨A2,hA2⟩:∃A2,(if c=j then A else A.map (·.add (j*Rep.size Int)))=A2:=⟨_,rfl⟩;rw[hA2] at hd;have hb0:=(Below.refl w.heap.size w).alloc nL (.cells #[.slice none 0 0,.slice none 0 0] 36);have hx0:ABox (w.alloc (.cells #[.slice none 0 0,.slice none 0 0] 36)) w.heap.size 36 [.slice none 0 0,.slice none 0 0]:=heap_alloc_new w _;have hz:(w.alloc (.cells #[.slice none 0 0,.slice none 0 0] 36)).heap.size=w.heap.size+1:=by simp
 have HT:=Lh (text_any A2 (c-j) (l.drop j) _ (hd.to hb0));rw[hlen] at HT;have HJ:=Lh hj;have fin:∀(a b:Int),a=b→b=a:=fun _ _ h=>h.symm
 clear hd hlen hl hj fin;have hjI:(j:Int)≤(l.length:Int):=by omega
 have hA3:(if c=j then(.slice A (l.length-j) (c-j):Value) else .slice (A.map (·.add j)) (l.length-j) (c-j))=.slice A2 (l.length-j) (c-j):=by
  rw[←hA2];split<;>simp[Rep.size]
 have HA3:=Lh hA3;clear hA2 hA3;go_enter Tryz.func94,Tryz.ntmps94;go_upto_region 1 with(fail);generalize w.alloc (.cells #[.slice none 0 0,.slice none 0 0] 36)=w0 at*;have HB0:=Lh hb0;have HX0:=Lh hx0;have HZ:=Lh hz;clear hb0 hx0 hz;by_cases hc:c=j
 ·have h3:A2=A:=by
   have h:=HA3.out;rw[if_pos hc] at h;injection h with h
   exact h.symm
  rw[h3] at HT;have hlj:l.length=j:=(by omega);subst hc;rw[hlj,Nat.sub_self] at HT;clear HA3;rw[hlj] at hm ⊢;clear hlj hl1 hjl hjI HJ;clear h3
  go_wp2_with (first|(go_at_call 34;refine HT.out.mono ?_;intro e w1 hT1;obtain⟨A5,c5,B5,d5,ls,ns,rfl,hg,hN,hb⟩:=hT1.own;have HG:=Lh hg;have HN:=Lh hN;have HB:=Lh hb;have x0:=(HX0.out.to hb).cell 0 rfl;have x1:=(HX0.out.to hb).cell 1 rfl;have f0:=(HX0.out.to hb).fz 0;have f1:=(HX0.out.to hb).fz 1;clear hg hN hb hT1)|fail)
  refine bodyPost_ret (v:=.agg #[.slice A5 ls.length c5,.slice B5 ns.length d5]) (QaN Tryz.results94 _ _ w.heap.size _ [.slice A5 ls.length c5,.slice B5 ns.length d5] _ rfl (by simpa using((HX0.out.to HB.out).set 0 (.slice A5 ls.length c5)).set 1 (.slice B5 ns.length d5)) Tryz.underlying36 rfl (by kernel_rfl)) rfl ⟨A5,c5,B5,d5,ls,ns,rfl,HG.out,?_,?_⟩
  ·have e1:∀g,w.heap.size<g→((w1.setCell ⟨w.heap.size,0,none⟩ (.slice A5 ls.length c5)).setCell ⟨w.heap.size,1,none⟩ (.slice B5 ns.length d5)).heap[g]? =w1.heap[g]? :=fun g hg=>(Qaa _ _ 1 _ (by omega)).trans (Qaa _ _ 0 _ (by omega))
   exact Rep.mono (Rep.keep HN.out (fun g (hg:w0.heap.size≤g) _=>e1 g (by have:=HZ.out;omega))) (fun g (hg:w0.heap.size≤g) _=>by have:=HZ.out;omega)
  ·exact((HB0.out.trans (HB.out.mono HB0.out.size)).setCell (p:=⟨w.heap.size,0,none⟩) nL _).setCell (p:=⟨w.heap.size,1,none⟩) nL _
 ·have h3:A2=A.map (·.add j):=by
   have h:=HA3.out;rw[if_neg hc] at h;injection h with h
   exact h.symm
  rw[h3] at HT;clear h3
  go_wp2_with (first|(go_at_call 34;refine HT.out.mono ?_;intro e w1 hT1;obtain⟨A5,c5,B5,d5,ls,ns,rfl,hg,hN,hb⟩:=hT1.own;have HG:=Lh hg;have HN:=Lh hN;have HB:=Lh hb;have x0:=(HX0.out.to hb).cell 0 rfl;have x1:=(HX0.out.to hb).cell 1 rfl;have f0:=(HX0.out.to hb).fz 0;have f1:=(HX0.out.to hb).fz 1;clear hg hN hb hT1)|fail)
  refine bodyPost_ret (v:=.agg #[.slice A5 ls.length c5,.slice B5 ns.length d5]) (QaN Tryz.results94 _ _ w.heap.size _ [.slice A5 ls.length c5,.slice B5 ns.length d5] _ rfl (by simpa using((HX0.out.to HB.out).set 0 (.slice A5 ls.length c5)).set 1 (.slice B5 ns.length d5)) Tryz.underlying36 rfl (by kernel_rfl)) rfl ⟨A5,c5,B5,d5,ls,ns,rfl,HG.out,?_,?_⟩
  ·have e1:∀g,w.heap.size<g→((w1.setCell ⟨w.heap.size,0,none⟩ (.slice A5 ls.length c5)).setCell ⟨w.heap.size,1,none⟩ (.slice B5 ns.length d5)).heap[g]? =w1.heap[g]? :=fun g hg=>(Qaa _ _ 1 _ (by omega)).trans (Qaa _ _ 0 _ (by omega))
   exact Rep.mono (Rep.keep HN.out (fun g (hg:w0.heap.size≤g) _=>e1 g (by have:=HZ.out;omega))) (fun g (hg:w0.heap.size≤g) _=>by have:=HZ.out;omega)
  ·exact((HB0.out.trans (HB.out.mono HB0.out.size)).setCell (p:=⟨w.heap.size,0,none⟩) nL _).setCell (p:=⟨w.heap.size,1,none⟩) nL _
def Qby (i k:Nat):List Int:=(10-(i:Int))::(List.range k).map (fun j:Nat=>30+7*(i:Int)-3*(j:Int))
theorem versG_succ (i k:Nat):Qby i k++[30+7*(i:Int)-3*(k:Int)]=Qby i (k+1):=by
 unfold Qby;rw[List.range_succ,List.map_append];rfl
theorem Qba (i k:Nat):(Qby i k).length=k+1:=by unfold Qby;simp
def GSect (f i:Nat)(s:SectP):Prop:=
 (∃d:Nat,d≤1∧s.entry=2*(i:Int)+d)∧s.frozen=decide (i<f)∧∃j,j≤2∧(s.frozen=false→j=0)∧s.vers=Qby i j∧s.texts.length=j+1∧∀t∈s.texts,GText t.a t.b
structure GBk (m h:Int)(l:List SectP):Prop where
 m1:500≤m
 m2:m≤1080
 h1:4≤h
 h2:h≤8
 n:l.length≤4
 s:∃f,∀i (hi:i<l.length),GSect f i l[i]
structure OB (w:World)(m h:Int)(f k:Nat)(v:Value)(l:List SectP)(W:World):Prop where
 r:ABox W w.heap.size 25 [.int .i64 0,.int .i64 0,.slice none 0 0]
 b:ABox W (w.heap.size+1) 25 [.int .i64 m,.int .i64 h,v]
 o:OwnP W w.heap.size 74 v l (fun i=>w.heap.size+1<i)
 n:l.length=k
 g:∀i (hi:i<l.length),GSect f i l[i]
 bl:Below w.heap.size w W
structure IB (B X:Nat)(wr:World)(e:Int)(fr:Bool)(vv vt:Value)(vs:List Int)(ts:List TextP)(W:World):Prop where
 s:ABox W X 74 [.int .i64 e,.bool fr,vv,vt]
 sx:B≤X
 v:Own W B 3 vv vs
 vx:vv.ownBlock≠some X
 t:OwnP W B 36 vt ts (fun b=>B≤b∧b≠X∧some b≠vv.ownBlock)
 g:∀t∈ts,GText t.a t.b
 bl:Below B wr W
section
variable {w W W' wr:World} {m h:Int} {f k:Nat} {v:Value} {l:List SectP}
theorem OB.to (H:OB w m h f k v l W)(hb:Below W.heap.size W W'):OB w m h f k v l W':=⟨H.r.to hb,H.b.to hb,H.o.below hb,H.n,H.g,H.bl.trans (hb.mono H.bl.size)⟩
theorem OB.lt (H:OB w m h f k v l W):w.heap.size+1<W.heap.size:=by have:=H.b.lt;omega
variable {B X:Nat} {e:Int} {fr:Bool} {vv vt:Value} {vs:List Int} {ts:List TextP}
theorem IB.to (H:IB B X wr e fr vv vt vs ts W)(hB:B≤W.heap.size)(hb:Below W.heap.size W W'):IB B X wr e fr vv vt vs ts W':=⟨H.s.to hb,H.sx,H.v.below hb,H.vx,H.t.below hb,H.g,H.bl.trans (hb.mono hB)⟩
end
theorem IB.secV {B X:Nat}{wr W W1 W':World}{e:Int}{fr:Bool}{vv vt:Value}{vs:List Int}{ts:List TextP}(H:IB B X wr e fr vv vt vs ts W)(h1:Below W.heap.size W W1)(hg:W1.grownBy W' vv.ownBlock):ABox W' X 74 [.int .i64 e,.bool fr,vv,vt]:=
 (hg.block X (by have:=h1.size;have:=H.s.lt;omega) (fun e=>H.vx e.symm)).trans (H.s.to h1)
theorem IB.secT {B X:Nat}{wr W W1 W':World}{e:Int}{fr:Bool}{vv vt:Value}{vs:List Int}{ts:List TextP}(H:IB B X wr e fr vv vt vs ts W)(h1:Below W.heap.size W W1)(hg:W1.grownBy W' vt.ownBlock):ABox W' X 74 [.int .i64 e,.bool fr,vv,vt]:=
 (hg.block X (by have:=h1.size;have:=H.s.lt;omega) (fun e=>(H.t.at_ X e.symm).2.1 rfl)).trans (H.s.to h1)
theorem IB.pushV {B X:Nat}{wr W W1 W':World}{e:Int}{fr:Bool}{vv vt v':Value}{vs vs':List Int}{ts:List TextP}{g:Nat}(H:IB B X wr e fr vv vt vs ts W)(hB:B≤W.heap.size)(h1:Below W.heap.size W W1) (hown:Own W' B 3 v' vs') (hg:W1.grownBy W' vv.ownBlock) (hat:vv.ownBlock=some g∨g=W1.heap.size) (hv:v'.ownBlock=some g):
 IB B X wr e fr v' vt vs' ts (W'.setCell ⟨X,2,none⟩ v'):=by
 have hX:=H.s.lt;have hz:=h1.size
 have hgx:g≠X:=fun he=>by
  rcases hat with h|h
  ·exact H.vx (he▸h)
  ·omega
 have hs:ABox W' X 74 [.int .i64 e,.bool fr,vv,vt]:=(hg.block X (by have:=h1.size;omega) (fun e=>H.vx e.symm)).trans (H.s.to h1);refine⟨?_,H.sx,?_,by rw[hv];intro e;injection e with e;exact hgx e,?_,H.g,?_⟩
 ·have:=hs.set 2 v';simpa using this
 ·refine hown.at_blocks fun b _ hb=>Qaa _ _ _ _ (fun e=>?_)
  rw[hv] at hb;injection hb with hb;omega
 ·refine OwnP.set ?_ _ _ _ (fun i hi=>hi.2.1);refine(((H.t.below h1).mono (Q:=fun b=>(B≤b∧b≠X∧some b≠vv.ownBlock)∧some b≠some g) (fun i hi hl=>⟨hi,fun e=>?_⟩)).grown hg (fun i hi=>hi.1.2.2)).mono (fun i hi _=>⟨hi.1.1,hi.1.2.1,by rw[hv];exact hi.2⟩);injection e with e
  rcases hat with h|h
  ·exact hi.2.2 (by rw[h,e])
  ·omega
 ·exact((H.bl.trans (h1.mono hB)).grown hg (by omega) (fun k hk=>(H.v.lt k hk).1)).setCell (p:=⟨X,2,none⟩) H.sx _
theorem IB.pushT {B X:Nat}{wr W W1 W':World}{e:Int}{fr:Bool}{vv vt v':Value}{vs:List Int}{ts ts':List TextP}{g:Nat}(H:IB B X wr e fr vv vt vs ts W)(hB:B≤W.heap.size)(h1:Below W.heap.size W W1) (hown:Own W' B 36 v' (ts'.map (Av.mk:TextP→Av TextP (fun b=>B≤b∧b≠X∧some b≠vv.ownBlock)))) (hg:W1.grownBy W' vt.ownBlock) (hat:vt.ownBlock=some g∨g=W1.heap.size) (hv:v'.ownBlock=some g) (hgt:∀t∈ts',GText t.a t.b):
 IB B X wr e fr vv v' vs ts' (W'.setCell ⟨X,3,none⟩ v'):=by
 have hX:=H.s.lt;have hz:=h1.size;have htx:vt.ownBlock≠some X:=fun he=>(H.t.at_ X he).2.1 rfl
 have hgx:g≠X:=fun he=>by
  rcases hat with h|h
  ·exact htx (he▸h)
  ·omega
 have hgv:some g≠vv.ownBlock:=fun he=>by
  rcases hat with h|h
  ·exact(H.t.at_ g h).2.2 he
  ·have:=(H.v.lt g he.symm).2;omega
 have hs:ABox W' X 74 [.int .i64 e,.bool fr,vv,vt]:=(hg.block X (by have:=h1.size;omega) (fun e=>htx e.symm)).trans (H.s.to h1);refine⟨?_,H.sx,?_,H.vx,?_,hgt,?_⟩
 ·have:=hs.set 3 v';simpa using this
 ·refine((H.v.below h1).at_blocks (w':=W') fun b hb hv'=>hg.block b hb (fun e=>?_)).at_blocks fun b _ hb=>Qaa _ _ _ _ (fun e=>H.vx (by rw[hb,e]))
  exact(H.t.at_ b e.symm).2.2 hv'.symm
 ·refine OwnP.set (P:=fun b=>B≤b∧b≠X∧some b≠vv.ownBlock) ?_ _ _ _ (fun i hi=>hi.2.1);have hgB:B≤g:=by
   rcases hat with h|h
   ·exact(H.t.lt g h).1
   ·omega
  exact OwnP.ofBd hown (fun k hk=>by rw[hv] at hk;injection hk with hk;subst hk;exact⟨hgB,hgx,hgv⟩)
 ·exact((H.bl.trans (h1.mono hB)).grown hg (by omega) (fun k hk=>(H.t.lt k hk).1)).setCell (p:=⟨X,3,none⟩) H.sx _
theorem Own.repB {α:Type}[Rep α][Flat α]{w:World}{base:Nat}{e:TypeId}{v:Value}{l:List α}{S:Nat→Prop}(h:Own w base e v l)(hl:l.length<9223372036854775808)(hS:∀b,v.ownBlock=some b→S b):Rep.R w S [v] l:=by
 obtain⟨A,c,rfl,hs⟩:=h.slB;exact⟨A,c,rfl,hs.mono fun i hi _=>hS i hi,hl⟩
theorem IB.rep {B X Y:Nat}{wr W W2:World}{e:Int}{fr:Bool}{v vv vt:Value}{vs:List Int}{ts:List TextP}(H:IB B X wr e fr vv vt vs ts W)(hI:I64 e)(h2:Below W.heap.size W W2)(hY:Y<B)(hv:∀g,v.ownBlock=some g→g<B)(hvs:vs.length≤10)(hts:ts.length≤10):
 Rep.R W2 (fun b=>some b≠v.ownBlock∧Y<b) [.int .i64 e,.bool fr,vv,vt] (⟨e,fr,vs,ts⟩:SectP):=by
 refine⟨vv,vt,rfl,hI,(H.v.below h2).repB (by omega) (fun b hb=>?_),(H.t.below h2).rep (by omega) (fun b hb _=>?_)⟩
 ·have:=(H.v.lt b hb).1;exact⟨fun e=>by have:=hv b e.symm;omega,by omega⟩
 ·have:=hb.1;exact⟨fun e=>by have:=hv b e.symm;omega,by omega⟩
theorem OB.book {w W W1 W':World}{m h:Int}{f k:Nat}{v:Value}{l:List SectP}(H:OB w m h f k v l W)(h1:Below W.heap.size W W1)(hg:W1.grownBy W' v.ownBlock):ABox W' (w.heap.size+1) 25 [.int .i64 m,.int .i64 h,v]:=
 (hg.block _ (by have:=h1.size;have:=H.b.lt;omega) (fun e=>by have:=H.o.at_ _ e.symm;omega)).trans (H.b.to h1)
theorem OB.push {w W W1 W':World}{m h:Int}{f k g:Nat}{v v':Value}{l:List SectP}{s:SectP}(H:OB w m h f k v l W)(h1:Below W.heap.size W W1)(hs:GSect f k s) (hown:Own W' w.heap.size 74 v' ((l++[s]).map (Av.mk:SectP→Av SectP (fun i=>w.heap.size+1<i)))) (hg:W1.grownBy W' v.ownBlock) (hat:v.ownBlock=some g∨g=W1.heap.size) (hv:v'.ownBlock=some g):
 OB w m h f (k+1) v' (l++[s]) (W'.setCell ⟨w.heap.size+1,2,none⟩ v'):=by
 have hz:=h1.size;have hlt:=H.lt;have hgB:w.heap.size+1<g:=by
  rcases hat with e|e
  ·exact H.o.at_ g e
  ·omega
 refine⟨?_,?_,?_,by rw[qA,H.n];rfl,fun i hi=>?_,?_⟩
 ·refine ABox.other ?_ (by omega) _ _;exact(hg.block _ (by have:=H.r.lt;omega) (fun e=>by have:=H.o.at_ _ e.symm;omega)).trans (H.r.to h1)
 ·have:=(H.book h1 hg).set 2 v';simpa using this
 ·exact(OwnP.ofBd hown (fun k hk=>by rw[hv] at hk;injection hk with hk;subst hk;exact hgB)).set _ _ _ (fun i hi e=>by omega)
 ·by_cases hi2:i<l.length
  ·rw[List.getElem_append_left hi2];exact H.g i hi2
  ·obtain rfl:i=l.length:=by rw[qA,List.length_singleton] at hi;omega
   have e:(l++[s])[l.length]=s:=(by simp);rw[e,H.n];exact hs
 ·exact((H.bl.trans (h1.mono H.bl.size)).grown hg (by have:=H.bl.size;omega) (fun k hk=>by have:=H.o.at_ k hk;omega)).setCell (p:=⟨w.heap.size+1,2,none⟩) (by show w.heap.size≤w.heap.size+1;omega) _
theorem text_lit {w:World}{B:Nat}{P:Nat→Prop}{va vb:Value}{t:TextP}(hB:B≤w.heap.size)(h:Rep.R w P [va,vb] t)(hP:P w.heap.size):
 OwnP (w.alloc (.cells #[va,vb] 36)) B 36 (.slice (some ⟨w.heap.size,0,none⟩) 1 1) [t] (fun b=>P b∧b≤w.heap.size):=by
 refine⟨?_,fun g hg=>by cases hg;exact⟨hP,Nat.le_refl _⟩⟩;refine Own.lit (α:=Av TextP (fun b=>P b∧b≤w.heap.size)) w B _ #[va,vb] [⟨t⟩] hB (by simp[maxLen]) rfl (Rep.one h) (fun i hi=>?_);obtain rfl:i=0:=by simpa using hi
 show Rep.R _ _ [va,vb] t;exact Rep.mono (Rep.keep (Rep.mono (S':=fun b=>P b∧b<w.heap.size) h (fun b h1 h2=>⟨h1,h2⟩)) (Kept.all (bR.alloc nL _))) (fun b hb _=>⟨by omega,hb.1,by omega⟩)
theorem IB.start {wr w2 w3:World}{B:Nat}{e ver:Int}{fr:Bool}{va vb:Value}{t:TextP}(hB:B=wr.heap.size)(h2:Below B wr w2)(hz:w2.heap.size=B+2)(hr:IRow w2 B 3 [ver])(hv:I64 ver) (hs:ABox w2 (B+1) 74 [.int .i64 e,.bool fr,.slice (some ⟨B,0,none⟩) 1 1,.slice none 0 0]) (h3:Below w2.heap.size w2 w3) (ht:Rep.R w3 (fun b=>w2.heap.size≤b) [va,vb] t) (hg:GText t.a t.b):
 IB B (B+1) wr e fr (.slice (some ⟨B,0,none⟩) 1 1) (.slice (some ⟨w3.heap.size,0,none⟩) 1 1) [ver] [t] ((w3.alloc (.cells #[va,vb] 36)).setCell ⟨B+1,3,none⟩ (.slice (some ⟨w3.heap.size,0,none⟩) 1 1)):=by
 have hz3:=h3.size;have hb4:Below w3.heap.size w3 (w3.alloc (.cells #[va,vb] 36)):=bR.alloc nL _;have hb24:Below w2.heap.size w2 (w3.alloc (.cells #[va,vb] 36)):=h3.trans (hb4.mono hz3);refine⟨?_,by omega,?_,?_,?_,?_,?_⟩
 ·have:=(hs.to hb24).set 3 (.slice (some ⟨w3.heap.size,0,none⟩) 1 1);simpa using this
 ·exact(((hr.to hb24).other (by omega) _ _).own nL (fun x hx=>by rw[List.mem_singleton] at hx;subst hx;exact hv) (by simp[maxLen]))
 ·show some B≠some (B+1);simp
 ·have h5:=text_lit (B:=B) (P:=fun b=>w2.heap.size≤b) (by omega) ht hz3;refine(h5.mono (Q:=fun b=>B≤b∧b≠B+1∧some b≠(Value.slice (some ⟨B,0,none⟩) 1 1).ownBlock) (fun i hi _=>?_)).set _ _ _ (fun i hi=>hi.2.1);have h6:w2.heap.size≤i:=hi.1;refine⟨by omega,by omega,?_⟩;show some i≠some B;intro e;injection e with e;omega
 ·intro x hx;rw[List.mem_singleton] at hx;subst hx;exact hg
 ·exact(h2.trans (hb24.mono (by omega))).setCell (p:=⟨B+1,3,none⟩) (by show B≤B+1;omega) _
set_option maxRecDepth 100000 in
theorem gbook_any (A:Option Addr)(c:Nat)(l:List Int)(w:World)(hl:Sl w (fun b=>b<w.heap.size) A c l):
 Calls Tryz.prog 45 #[.slice A l.length c] w fun e w'=>∃m h A' c' ss,e=.returned (.agg #[.int .i64 m,.int .i64 h,.slice A' ss.length c'])∧GBk m h ss∧Sl w' (fun b=>w.heap.size≤b∧b<w'.heap.size) A' c' ss∧Below w.heap.size w w':=by
 have hb0:=(Below.refl w.heap.size w).alloc nL (.cells #[.int .i64 0,.int .i64 0,.slice none 0 0] 25);have hx0:ABox (w.alloc (.cells #[.int .i64 0,.int .i64 0,.slice none 0 0] 25)) w.heap.size 25 [.int .i64 0,.int .i64 0,.slice none 0 0]:=heap_alloc_new w _;have hz:(w.alloc (.cells #[.int .i64 0,.int .i64 0,.slice none 0 0] 25)).heap.size=w.heap.size+1:=by simp
 have hl0:=hl.to hb0;have HL:=Lh hl;go_enter Tryz.func45,Tryz.ntmps45;go_upto_region 1 with(fail);generalize w.alloc (.cells #[.int .i64 0,.int .i64 0,.slice none 0 0] 25)=w0 at*;have HB0:=Lh hb0;have HX0:=Lh hx0;have HZ:=Lh hz;have HL0:=Lh hl0;clear hb0 hx0 hz hl0 hl;go_wp2_with fail;refine(Qa7 A c l 0 30 w0 HL0.out (by decide) (by decide) (by decide)).mono ?_;rintro e _ ⟨pm,rfl,hpm,rfl⟩;have hpm2:(pm:Int)≤29:=by omega
 have hpm0:(0:Int)≤pm:=by omega
 clear hpm;go_wp2_with fail;refine(Qa7 A c l 1 5 w0 HL0.out (by decide) (by decide) (by decide)).mono ?_;rintro e _ ⟨ph,rfl,hph,rfl⟩;have hph2:(ph:Int)≤4:=by omega
 have hph0:(0:Int)≤ph:=by omega
 clear hph;go_upto_region 2 with(fail);obtain⟨m,hm⟩:∃m:Int,500+20*(pm:Int)=m:=⟨_,rfl⟩;obtain⟨h,hh⟩:∃h:Int,4+(ph:Int)=h:=⟨_,rfl⟩;rw[hm,hh];have HM:Hid ((500≤m∧m≤1080)∧4≤h∧h≤8):=Lh (by omega);clear hm hh hpm2 hpm0 hph2 hph0;obtain⟨w1,hw1⟩:∃w1,w0.alloc (.cells #[.int .i64 m,.int .i64 h,.slice none 0 0] 25)=w1:=⟨_,rfl⟩;have hb1:Below w0.heap.size w0 w1:=by rw[←hw1];exact bR.alloc nL _
 have hx1:ABox w1 (w.heap.size+1) 25 [.int .i64 m,.int .i64 h,.slice none 0 0]:=by rw[←hw1,←HZ.out];exact heap_alloc_new w0 _
 have HOB0:Hid (∀f,OB w m h f 0 (.slice none 0 0) [] w1):=Lh (fun f=>⟨HX0.out.to hb1,hx1,OwnP.nil _ _ _ _,rfl,fun i hi=>absurd hi (Nat.not_lt_zero _),HB0.out.trans (hb1.mono HB0.out.size)⟩);have HL1:=Lh (HL0.out.to hb1);have HE:Hid (w0.heap.size=w.heap.size+1):=HZ;rw[hw1,HZ.out];clear hw1 hb1 hx1;go_wp2_with fail;refine(Qa7 A c l 2 5 w1 HL1.out (by decide) (by decide) (by decide)).mono ?_;rintro e _ ⟨n,rfl,hn,rfl⟩;have hn2:(n:Int)≤4:=by omega
 have hn0:(0:Int)≤n:=by omega
 clear hn;go_wp2_with fail;refine(Qa7 A c l 3 ((n:Int)+1) w1 HL1.out (by omega) (by omega) (by decide)).mono ?_;rintro e _ ⟨f,rfl,hf,rfl⟩;have hf2:(f:Int)≤4:=by omega
 have hf0:(0:Int)≤f:=by omega
 clear hf;go_wp2_with fail;go_loopw [6] (fun i wr=>∃k:Nat,k≤n∧i=.int .i64 k∧∃v ss,OB w m h f k v ss wr) (fun i _=>n-(intOf i).toNat);(case atStart=>exact⟨0,by omega,rfl,_,_,HOB0.out f⟩);case round=>
  obtain⟨k,hk,rfl,v,ss,hob⟩:=hrel;have HOB:=Lh hob;clear hob;have hk2:(k:Int)≤4:=(by omega);have hk0:(0:Int)≤k:=(by omega);by_cases hlt:k<n
  ·have hkl:(k:Int)<n:=by omega
   have HLr:=Lh (HL.out.to HOB.out.bl);go_wp2_with fail;refine(Qa7 A c l (4+(k:Int)) 2 wr HLr.out (by decide) (by decide) (by omega)).mono ?_;rintro e _ ⟨d,rfl,hd,rfl⟩;have hd2:(d:Int)≤1:=(by omega);have hd0:(0:Int)≤d:=(by omega);clear hd;go_upto_region 8 with(fail);obtain⟨en,hen⟩:∃en:Int,2*(k:Int)+(d:Int)=en:=⟨_,rfl⟩;have HEN:Hid (∃d:Nat,d≤1∧en=2*(k:Int)+d):=Lh ⟨d,by omega,hen.symm⟩;obtain⟨ve,hve⟩:∃ve:Int,10-(k:Int)=ve:=⟨_,rfl⟩;have HI:Hid (I64 en∧I64 ve):=Lh ⟨⟨by omega,by omega⟩,⟨by omega,by omega⟩⟩;obtain⟨fr,hfr⟩:∃fr,decide (k<f)=fr:=⟨_,rfl⟩;have HVE:=Lh hve;have HFR:=Lh hfr;rw[hen,hve,hfr];clear hen hve hd2 hd0 hfr;obtain⟨B,hB⟩:∃B,wr.heap.size=B:=⟨_,rfl⟩;obtain⟨w2,hw2⟩:∃w2,(wr.alloc (.cells #[.int .i64 ve] 3)).alloc (.cells #[.int .i64 en,.bool fr,.slice (some ⟨B,0,none⟩) 1 1,.slice none 0 0] 74)=w2:=⟨_,rfl⟩;have hb2:Below B wr w2:=(by rw[←hw2];exact(bR.alloc (by omega) _).alloc (by simp;omega) _);have hr2:IRow w2 B 3 [ve]:=(by rw[←hw2];exact(Below.heap_alloc _ _ _ (by simp;omega)).trans (by rw[←hB];exact heap_alloc_new wr _));have hs2:ABox w2 (B+1) 74 [.int .i64 en,.bool fr,.slice (some ⟨B,0,none⟩) 1 1,.slice none 0 0]:=(by rw[←hw2];exact Qak (by simp;omega));have hz2:w2.heap.size=B+2:=(by rw[←hw2];simp;omega);rw[hB,hw2];have HBw:=Lh hB;have HB2:=Lh hb2;have HR2:=Lh hr2;have HS2:=Lh hs2;have HZ2:=Lh hz2;have HOB2:=Lh (HOB.out.to (hB▸hb2));have hT:=rtext_any A c l (12+6*k) (by omega) w2 (HL.out.to HOB2.out.bl);rw[show((12+6*k:Nat):Int)=12+6*(k:Int) by omega] at hT;have HT:=Lh hT;clear hT hw2 hb2 hr2 hs2 hz2 hB
   go_upto_region 9 with(first|(go_at_call 94;refine HT.out.mono ?_;rintro e w3 ⟨A5,c5,B5,d5,ls,ns,rfl,hg,hN,hb⟩;have HIB:=Lh (IB.start HBw.out.symm HB2.out HZ2.out HR2.out HI.out.2 HS2.out hb hN hg);have HB3:=Lh hb;have hx:=((HS2.out.to hb).to ((Below.refl _ w3).alloc nL (.cells #[.slice A5 ls.length c5,.slice B5 ns.length d5] 36)));have x3:=hx.cell 3 rfl;have f3:=hx.fz 3;clear hg hN hb hx)|fail)
   have HIB0:Hid (∃vv vt ts,IB B (B+1) wr en fr vv vt (Qby k 0) ts ((w3.alloc (.cells #[.slice A5 ls.length c5,.slice B5 ns.length d5] 36)).setCell ⟨B+1,3,none⟩ (.slice (some ⟨w3.heap.size,0,none⟩) 1 1))∧ts.length=0+1):=Lh ⟨_,_,_,by
    have h:=HIB.out
    rw[show[ve]=Qby k 0 by rw[←HVE.out];rfl] at h
    exact h,rfl⟩
   clear HIB x3 f3 HR2 HS2 HB2 HZ2 HT HB3;generalize (w3.alloc (.cells #[.slice A5 ls.length c5,.slice B5 ns.length d5] 36)).setCell ⟨B+1,3,none⟩ (.slice (some ⟨w3.heap.size,0,none⟩) 1 1)=w4 at*;go_wp2_with fail;obtain⟨wo,rfl⟩:∃wo:World,wo=wr:=⟨_,rfl⟩;go_loopw [8] (fun j wx=>∃q:Nat,q≤2∧j=.int .i64 q∧(fr=false→q=0)∧∃vv vt ts,IB B (B+1) wo en fr vv vt (Qby k q) ts wx∧ts.length=q+1) (fun j _=>3-(intOf j).toNat);(case atStart=>exact⟨0,by omega,rfl,fun _=>rfl,HIB0.out⟩);case round=>
    obtain⟨q,hq,rfl,hfq,vv,vt,ts,hib,htn⟩:=hrel;have HIB:=Lh hib;have HFQ:=Lh hfq;have HTN:=Lh htn;have hq2:(q:Int)≤2:=(by omega);have hq0:(0:Int)≤q:=(by omega);have i1:=hib.s.cell 1 rfl;have hBB:B≤wr.heap.size:=(by have:=hib.s.lt;omega);have HOBx:Hid (OB w m h f k v ss wr):=Lh (HOB.out.to (HBw.out▸hib.bl));clear hib hfq htn;go_wp2_with fail;refine(Qa7 A c l (8+(k:Int)) 3 wr (HL.out.to HOBx.out.bl) (by decide) (by decide) (by omega)).mono ?_;rintro e _ ⟨r,rfl,hr,rfl⟩;by_cases hqr:q<r∧fr=true
    ·obtain⟨hqr,hft⟩:=hqr;have hqr2:(q:Int)<r:=(by omega);have HFT:=Lh hft;subst hft;have hq1:(q:Int)≤1:=(by omega);have hq1n:q≤1:=(by omega);clear hr;go_upto_region 12 with(fail);obtain⟨A6,c6,hv6,-,-⟩:=HIB.out.v.form;obtain⟨A7,c7,hv7,-,-⟩:=HIB.out.t.len;subst hv6 hv7;rw[Qba,HTN.out] at HIB;have i2:=HIB.out.s.cell 2 rfl;obtain⟨vn,hvn⟩:∃vn:Int,30+7*(k:Int)-3*(q:Int)=vn:=⟨_,rfl⟩;have HVN:=Lh hvn;have HIN:Hid (I64 vn):=Lh ⟨by omega,by omega⟩;have hln:(Qby k q).length=q+1:=Qba k q;obtain⟨vs,hvs⟩:∃vs,Qby k q=vs:=⟨_,rfl⟩;have HVS:=Lh hvs;rw[hvs] at HIB hln;have hba:Below wr.heap.size wr (wr.alloc (.cells #[.int .i64 vn] 3)):=bR.alloc nL _;have HBA:=Lh hba;have hown6:Own wr B 3 (.slice A6 vs.length c6) vs:=(by rw[hln];exact HIB.out.v);rw[←hln] at i2;have HIB6:Hid ((Value.slice A6 vs.length c6).ownBlock=(Value.slice A6 (q+1) c6).ownBlock):=Lh (by rw[hln]);have HLN:=Lh hln;have hvl:vs.length≤10:=(by omega);clear hvs hba hln i1
     go_upto_region 13 with(first|(at_builtin;refine Qau (α:=Int) _ rfl (.tmp 62) (.tmp 69) 22 rfl B 3 (.int .i64 0) 8 Tryz.underlying22 Qa8 rfl (by decide) _ vs rfl (hown6.alloc _) wr.heap.size _ vn (0,0) 3 rfl (heap_alloc_new wr _) ⟨rfl,HIN.out⟩ (by omega) (by omega) (by first|omega|(simp;done)|(simp;omega)) _ rfl ?_;intro g cap w5 hown5 hg5 hat5 hlt5;have hs5:=HIB.out.secV HBA.out (HIB6.out▸hg5);have x2:=hs5.cell 2 rfl;have f2:=hs5.fz 2;have HIB5:=Lh (HIB.out.pushV (v':=.slice (some ⟨g,0,none⟩) (vs.length+1) cap) hBB HBA.out hown5 (HIB6.out▸hg5) (HIB6.out▸hat5) rfl);clear hs5 hown5 hg5 hat5 hlt5)|fail)
     obtain⟨W8,hW8⟩:∃W8,(w5.setCell ⟨B+1,2,none⟩ (.slice (some ⟨g,0,none⟩) (vs.length+1) cap)).drew=W8:=⟨_,rfl⟩
     have HIB8:Hid (IB B (B+1) wo en true (.slice (some ⟨g,0,none⟩) (vs.length+1) cap) (.slice A7 (q+1) c7) (vs++[vn]) ts W8):=Lh (by
      rw[←hW8]
      exact HIB5.out.to (by have:=HIB5.out.s.lt;omega) bR.drew)
     clear HIB5 x2 f2;refine Qav (fun w'=>w'.cell? ⟨B+1,3,none⟩=some (.slice A7 (q+1) c7)) (fun i=>decide (i<13)) (by kernel_rfl) ?_;rw[hW8];clear hW8;have hS0:W8.cell? ⟨B+1,3,none⟩=some (.slice A7 (q+1) c7):=HIB8.out.s.cell 3 rfl;have HB8:Hid (B+1<W8.heap.size):=Lh HIB8.out.s.lt;have hT2:=rtext_any A c l (15+6*k+7*q) (by omega) W8 (HL.out.to ((HOB.out.to (HBw.out▸HIB8.out.bl)).bl));rw[show((15+6*k+7*q:Nat):Int)=15+6*(k:Int)+7*(q:Int) by omega] at hT2;have HT2:=Lh hT2;have hwa:IntKind.i64.wrap (6*(k:Int))=6*(k:Int):=(by rw[IntWalk.i64_in _ (by omega)]);have hwb:IntKind.i64.wrap (15+6*(k:Int))=15+6*(k:Int):=(by rw[IntWalk.i64_in _ (by omega)]);have hwc:IntKind.i64.wrap (7*(q:Int))=7*(q:Int):=(by rw[IntWalk.i64_in _ (by omega)]);have hwd:IntKind.i64.wrap (15+6*(k:Int)+7*(q:Int))=15+6*(k:Int)+7*(q:Int):=(by rw[IntWalk.i64_in _ (by omega)]);clear hT2;refine tE 0 ⟨some 72,Op.fieldAddr 74 (.tmp 7) 3,0,_,_,_⟩ ?_ rfl ?zq0 (hS0) ?zq1;(case zq0=>intro _ s;clear s;go_simp;(try with_reducible rfl));(all_goals try go_frame);refine tE 1 ⟨some 73,Op.load 72 (.tmp 72),72,_,_,_⟩ ?_ rfl ?zq2 (hS0) ?zq3;(case zq2=>intro wS hSw;(have hq9:=hSw);clear hSw;go_simp;(try with_reducible rfl));(all_goals try go_frame);refine tE 2 ⟨some 74,Op.move (.tmp 0),22,_,_,_⟩ ?_ rfl ?zq4 (hS0) ?zq5;(case zq4=>intro _ s;clear s;go_simp;(try with_reducible rfl));(all_goals try go_frame);refine tE 3 ⟨some 75,Op.move (.tmp 6),3,_,_,_⟩ ?_ rfl ?zq6 (hS0) ?zq7;(case zq6=>intro _ s;clear s;go_simp;(try with_reducible rfl));(all_goals try go_frame);refine tE 4 ⟨some 76,Op.binOp BinOp.mul 3 (Operand.const (Value.int IntKind.i64 6)) (.tmp 75) 3,3,_,_,_⟩ ?_ rfl ?zq8 (hS0) ?zq9;(case zq8=>intro _ s;clear s;go_simp;(try with_reducible rfl));(all_goals try go_frame);refine tE 5 ⟨some 77,Op.binOp BinOp.add 3 (Operand.const (Value.int IntKind.i64 15)) (.tmp 76) 3,3,_,_,_⟩ ?_ rfl ?zq10 (hS0) ?zq11;(case zq10=>intro _ s;clear s;go_simp;(try with_reducible rfl));(all_goals try go_frame);refine tE 6 ⟨some 78,Op.move (.tmp 8),3,_,_,_⟩ ?_ rfl ?zq12 (hS0) ?zq13;(case zq12=>intro _ s;clear s;go_simp;(try with_reducible rfl));(all_goals try go_frame);refine tE 7 ⟨some 79,Op.binOp BinOp.mul 3 (Operand.const (Value.int IntKind.i64 7)) (.tmp 78) 3,3,_,_,_⟩ ?_ rfl ?zq14 (hS0) ?zq15;(case zq14=>intro _ s;clear s;go_simp;(try with_reducible rfl));(all_goals try go_frame);refine tE 8 ⟨some 80,Op.binOp BinOp.add 3 (.tmp 77) (.tmp 79) 3,3,_,_,_⟩ ?_ rfl ?zq16 (hS0) ?zq17;(case zq16=>intro _ s;clear s;go_simp;(try with_reducible rfl));(all_goals try go_frame);refine tD 9 ⟨some 81,Op.call {callee:=Callee.value (Operand.func 94),args:=#[Operand.tmp 74,Operand.tmp 80],argTypes:=#[22,3]},36,_,_,_⟩ rfl fun K hK=>?_
     go_simp;go_at_call 94;refine HT2.out.mono ?_;rintro e w6 ⟨A8,c8,B8,d8,ls2,ns2,rfl,hg2,hN2,hb6⟩;go_simp;have hS6:w6.cell? ⟨B+1,3,none⟩=some (.slice A7 (q+1) c7):=((HIB8.out.s.to hb6).cell 3 rfl);have HB6:=Lh hb6;have HG2:=Lh hg2;have HN2:=Lh hN2;clear hb6 hg2 hN2;refine hK _ _ (fun _=>?_) ?_
     ·exact hS6
     clear hK K;(try go_frame);refine tD 10 ⟨some 82,Op.buildSlice 72 1 #[(0,.tmp 81)],72,_,_,_⟩ rfl fun K hK=>?_
     go_simp;have hb7:Below w6.heap.size w6 (w6.alloc (.cells #[.slice A8 ls2.length c8,.slice B8 ns2.length d8] 36)):=bR.alloc nL _;have HB7:=Lh (HB6.out.trans (hb7.mono HB6.out.size));have hl7:=heap_alloc_new w6 (.cells #[.slice A8 ls2.length c8,.slice B8 ns2.length d8] 36);have HN7:=Lh (Rep.keep (Rep.mono (S':=fun b=>W8.heap.size≤b) HN2.out (fun _ h _=>h)) (Kept.all hb7));have hS7:(w6.alloc (.cells #[.slice A8 ls2.length c8,.slice B8 ns2.length d8] 36)).cell? ⟨B+1,3,none⟩=some (.slice A7 (q+1) c7):=((HIB8.out.s.to HB7.out).cell 3 rfl);have HL7:=Lh hl7;obtain⟨b7,hbe7⟩:∃b7,w6.heap.size=b7:=⟨_,rfl⟩;rw[hbe7] at HL7 ⊢;clear hb7 hl7 hS6 HN2 HB6 hbe7;generalize w6.alloc (.cells #[.slice A8 ls2.length c8,.slice B8 ns2.length d8] 36)=w7 at*;refine hK _ _ (fun _=>?_) ?_
     ·exact hS7
     clear hK K;(try go_frame);refine tD 11 ⟨some 83,Op.call {callee:=Callee.builtin Builtin.append,args:=#[Operand.tmp 73,Operand.tmp 82],argTypes:=#[72,72]},72,_,_,_⟩ rfl fun K hK=>?_
     have hvt:(Value.slice A7 (q+1) c7).ownBlock=(Value.slice A7 ts.length c7).ownBlock:=by rw[HTN.out]
     have hown7:OwnP w7 B 36 (.slice A7 ts.length c7) ts (fun b=>B≤b∧b≠B+1∧some b≠(Value.slice (some ⟨g,0,none⟩) (vs.length+1) cap).ownBlock):=(by rw[HTN.out];exact HIB8.out.t.below HB7.out);rw[←HTN.out];have htl:ts.length≤10:=by rw[HTN.out];omega
     refine wp_push w7 (α:=Av TextP (fun b=>B≤b∧b≠B+1∧some b≠(Value.slice (some ⟨g,0,none⟩) (vs.length+1) cap).ownBlock)) (.tmp 73) (.tmp 82) 72 rfl B 36 (.agg #[.slice none 0 0,.slice none 0 0]) 48 Tryz.underlying72 QdX rfl (show 0<2 by decide) (.slice A7 ts.length c7) (ts.map Av.mk) rfl hown7.own b7 _ ⟨⟨ls2,ns2⟩⟩ (0,0) _ rfl HL7.out (show Rep.R w7 (fun b=>some b≠(Value.slice A7 ts.length c7).ownBlock∧(B≤b∧b≠B+1∧some b≠(Value.slice (some ⟨g,0,none⟩) (vs.length+1) cap).ownBlock)) [.slice A8 ls2.length c8,.slice B8 ns2.length d8] (⟨ls2,ns2⟩:TextP) from Rep.mono HN7.out (fun i (hi:W8.heap.size≤i) _=>⟨fun e=>by have:=(HIB8.out.t.lt i (by rw[hvt];exact e.symm)).2;omega,by have:=HB8.out;omega,by have:=HB8.out;omega,fun e=>by have:=(HIB8.out.v.lt i e.symm).2;omega⟩)) (by rw[qM];omega) (by rw[qM];omega) (by have:=HB7.out.size;have:=HB8.out;omega) _ rfl ?_;rw[qM];intro g9 cap9 w9 ho9 hg9 hat9 hlt9;have hs9:=HIB8.out.secT HB7.out (hvt▸hg9);have x3:=hs9.cell 3 rfl;have f3:=hs9.fz 3;have hS9:w9.cell? ⟨B+1,3,none⟩=some (.slice A7 (q+1) c7):=x3;have HIB9:=Lh (HIB8.out.pushT (v':=.slice (some ⟨g9,0,none⟩) (ts.length+1) cap9) (ts':=ts++[⟨ls2,ns2⟩]) (by have:=HB8.out;omega) HB7.out (by rw[List.map_append];exact ho9) (hvt▸hg9) (hvt▸hat9) rfl (fun t ht=>(List.mem_append.1 ht).elim (HIB8.out.g t) (fun h=>by rw[List.mem_singleton] at h;subst h;exact HG2.out)));clear hs9 ho9 hg9 hat9 hlt9 hS7 hown7;refine hK _ _ (fun _=>?_) ?_
     ·exact hS9
     clear hK K;(try go_frame);refine tE 12 ⟨some 84,Op.fieldAddr 74 (.tmp 7) 3,0,_,_,_⟩ ?_ rfl ?zq18 (hS9) ?zq19;(case zq18=>intro _ s;clear s;go_simp;(try with_reducible rfl));(all_goals try go_frame);refine tD 13 ⟨none,Op.store 72 (.tmp 84) (.tmp 83),0,_,_,_⟩ rfl fun K hK=>?_
     clear hS9;go_simp;refine hK _ _ (fun h=>absurd h (by decide)) ?_;clear hK K;(try simp only[Act.put]);refine Qap (by kernel_rfl) ?_ _;unfold Exit.then;clear x3 f3;go_wp2_with fail;go_roundw
     case rel=>exact⟨q+1,by omega,by go_num,fun h=>absurd h (by decide),_,_,_,by
      have h:=HIB9.out
      rw[←HVS.out,←HVN.out,versG_succ] at h
      exact h,by rw[qA,HTN.out];rfl⟩
     case measure=>(first|(simp[intOf];done)|(simp[intOf];omega))
    ·have HNQ:=Lh hqr;by_cases hqr1:q<r
     ·have hft:fr=false:=by
       cases hf:fr with
       |false=>rfl
       |true=>exact absurd ⟨hqr1,hf⟩ HNQ.out
      have hqr2:(q:Int)<r:=(by omega);clear hqr;subst hft;obtain⟨A6,c6,hv6,-,-⟩:=HIB.out.v.form;obtain⟨A7,c7,hv7,-,-⟩:=HIB.out.t.len;subst hv6 hv7;obtain⟨A9,c9,hv9,-,-⟩:=HOBx.out.o.len;subst hv9;have hln:(Qby k q).length=q+1:=Qba k q;have HGS:Hid (GSect f k ⟨en,false,Qby k q,ts⟩):=Lh ⟨HEN.out,HFR.out.symm,q,hq,HFQ.out,rfl,HTN.out,HIB.out.g⟩;obtain⟨vs,hvs⟩:∃vs,Qby k q=vs:=⟨_,rfl⟩;rw[hvs] at HIB hln HGS;have hvl:vs.length≤10:=(by omega);have htl:ts.length≤10:=(by have:=HTN.out;omega);have hsl:ss.length≤10:=(by have:=HOBx.out.n;omega);have i0:=HIB.out.s.cell 0 rfl;have i2:=HIB.out.s.cell 2 rfl;have i3:=HIB.out.s.cell 3 rfl;have b2:=HOBx.out.b.cell 2 rfl;have hba:Below wr.heap.size wr (wr.alloc (.cells #[.int .i64 en,.bool false,.slice A6 vs.length c6,.slice A7 ts.length c7] 74)):=bR.alloc nL _;have HBA:=Lh hba;have HRE:=Lh (HIB.out.rep (v:=.slice A9 ss.length c9) (Y:=w.heap.size+1) HI.out.1 hba (by have:=HOB.out.lt;have:=HBw.out;omega) (fun g hg=>by have:=(HOB.out.o.lt g hg).2;have:=HBw.out;omega) hvl htl);clear hvs hln hba HIB HFQ HTN hq2 hq0
      go_upto_region 6 with(first|(at_builtin;refine Qau (α:=Av SectP (fun i=>w.heap.size+1<i)) _ rfl (.tmp 86) (.tmp 88) 23 rfl w.heap.size 74 (.agg #[.int .i64 0,.bool false,.slice none 0 0,.slice none 0 0]) 64 Tryz.underlying23 QbV rfl (show 0<4 by decide) _ (ss.map Av.mk) rfl (HOBx.out.o.own.alloc _) wr.heap.size _ ⟨⟨en,false,vs,ts⟩⟩ (0,0) 74 rfl (heap_alloc_new wr _) HRE.out (by rw[qM];omega) (by rw[qM];omega) (by have:=HOBx.out.bl.size;simp;omega) _ rfl ?_;rw[qM];intro g cap w5 hown5 hg5 hat5 hlt5;have hs5:=HOBx.out.book HBA.out hg5;have x2:=hs5.cell 2 rfl;have f2:=hs5.fz 2;have HOB5:=Lh (HOBx.out.push (v':=.slice (some ⟨g,0,none⟩) (ss.length+1) cap) HBA.out HGS.out (by rw[List.map_append];exact hown5) hg5 hat5 rfl);clear hs5 hown5 hg5 hat5 hlt5)|fail)
      clear x2 f2 i0 i1 i2 i3 b2;go_wp2_with fail;go_roundw;(case rel=>exact⟨k+1,by omega,by go_num,_,_,HOB5.out⟩);case measure=>(first|(simp[intOf];done)|(simp[intOf];omega))
     ·have hqr2:¬(q:Int)<r:=by omega
      clear hqr;obtain⟨A6,c6,hv6,-,-⟩:=HIB.out.v.form;obtain⟨A7,c7,hv7,-,-⟩:=HIB.out.t.len;subst hv6 hv7;obtain⟨A9,c9,hv9,-,-⟩:=HOBx.out.o.len;subst hv9;have hln:(Qby k q).length=q+1:=Qba k q;have HGS:Hid (GSect f k ⟨en,fr,Qby k q,ts⟩):=Lh ⟨HEN.out,HFR.out.symm,q,hq,HFQ.out,rfl,HTN.out,HIB.out.g⟩;obtain⟨vs,hvs⟩:∃vs,Qby k q=vs:=⟨_,rfl⟩;rw[hvs] at HIB hln HGS;have hvl:vs.length≤10:=(by omega);have htl:ts.length≤10:=(by have:=HTN.out;omega);have hsl:ss.length≤10:=(by have:=HOBx.out.n;omega);have i0:=HIB.out.s.cell 0 rfl;have i2:=HIB.out.s.cell 2 rfl;have i3:=HIB.out.s.cell 3 rfl;have b2:=HOBx.out.b.cell 2 rfl;have hba:Below wr.heap.size wr (wr.alloc (.cells #[.int .i64 en,.bool fr,.slice A6 vs.length c6,.slice A7 ts.length c7] 74)):=bR.alloc nL _;have HBA:=Lh hba;have HRE:=Lh (HIB.out.rep (v:=.slice A9 ss.length c9) (Y:=w.heap.size+1) HI.out.1 hba (by have:=HOB.out.lt;have:=HBw.out;omega) (fun g hg=>by have:=(HOB.out.o.lt g hg).2;have:=HBw.out;omega) hvl htl);clear hvs hln hba HIB HFQ HTN hq2 hq0
      go_upto_region 6 with(first|(at_builtin;refine Qau (α:=Av SectP (fun i=>w.heap.size+1<i)) _ rfl (.tmp 86) (.tmp 88) 23 rfl w.heap.size 74 (.agg #[.int .i64 0,.bool false,.slice none 0 0,.slice none 0 0]) 64 Tryz.underlying23 QbV rfl (show 0<4 by decide) _ (ss.map Av.mk) rfl (HOBx.out.o.own.alloc _) wr.heap.size _ ⟨⟨en,fr,vs,ts⟩⟩ (0,0) 74 rfl (heap_alloc_new wr _) HRE.out (by rw[qM];omega) (by rw[qM];omega) (by have:=HOBx.out.bl.size;simp;omega) _ rfl ?_;rw[qM];intro g cap w5 hown5 hg5 hat5 hlt5;have hs5:=HOBx.out.book HBA.out hg5;have x2:=hs5.cell 2 rfl;have f2:=hs5.fz 2;have HOB5:=Lh (HOBx.out.push (v':=.slice (some ⟨g,0,none⟩) (ss.length+1) cap) HBA.out HGS.out (by rw[List.map_append];exact hown5) hg5 hat5 rfl);clear hs5 hown5 hg5 hat5 hlt5)|fail)
      clear x2 f2 i0 i1 i2 i3 b2;go_wp2_with fail;go_roundw;(case rel=>exact⟨k+1,by omega,by go_num,_,_,HOB5.out⟩);case measure=>(first|(simp[intOf];done)|(simp[intOf];omega))
  ·obtain rfl:k=n:=by omega
   obtain⟨A9,c9,hv9,-,-⟩:=HOB.out.o.len;subst hv9;have b0:=HOB.out.b.cell 0 rfl;have b1:=HOB.out.b.cell 1 rfl;have b2:=HOB.out.b.cell 2 rfl;have r0:=HOB.out.r.cell 0 rfl;have r1:=HOB.out.r.cell 1 rfl;have r2:=HOB.out.r.cell 2 rfl;have f0:=HOB.out.r.fz 0;have f1:=HOB.out.r.fz 1;have f2:=HOB.out.r.fz 2;have hsl:ss.length≤10:=(by have:=HOB.out.n;omega);go_wp2_with fail
   refine bodyPost_ret (v:=.agg #[.int .i64 m,.int .i64 h,.slice A9 ss.length c9]) (QaN Tryz.results45 _ _ w.heap.size _ [.int .i64 m,.int .i64 h,.slice A9 ss.length c9] _ rfl (abox3 HOB.out.r _ _ _) Tryz.underlying25 rfl (by kernel_rfl)) rfl ⟨m,h,A9,c9,ss,rfl,⟨HM.out.1.1,HM.out.1.2,HM.out.2.1,HM.out.2.2,by have:=HOB.out.n;omega,f,HOB.out.g⟩,?_,below3 HOB.out.bl nL _ _ _⟩
   obtain⟨A10,c10,e10,hsl10⟩:=HOB.out.o.sl;cases e10;refine(hsl10.keep (w':=_) ?_ (by simp)).mono (fun i (hi:w.heap.size+1<i) hl=>⟨by omega,hl⟩);intro i (hi:w.heap.size+1<i) _;exact(Qaa _ _ _ _ (by omega)).trans ((Qaa _ _ _ _ (by omega)).trans (Qaa _ _ _ _ (by omega)))
structure TM (w:World)(A:Option Addr)(c:Nat)(B:Option Addr)(d:Nat)(a b:List (List Word)):Prop where
 ta:Sl w (fun b=>b<w.heap.size) A c a
 tb:Sl w (fun b=>b<w.heap.size) B d b
 sa:Qbp a
 sb:Qbp b

structure Tame (l:List SectP):Prop where
 n:l.length≤5
 v:∀s∈l,s.vers.length≤4∧s.texts.length≤s.vers.length∧∀t∈s.texts,GText t.a t.b
structure Siz (m h:Int):Prop where
 m1:500≤m
 m2:m≤2000
 h1:4≤h
 h2:h≤100
theorem GBk.siz {m h:Int}{l:List SectP}(H:GBk m h l):Siz m h:=⟨H.m1,by have:=H.m2;omega,H.h1,by have:=H.h2;omega⟩
theorem GBk.tame {m h:Int}{l:List SectP}(H:GBk m h l):Tame l:=by
 refine⟨by have:=H.n;omega,fun s hs=>?_⟩;obtain⟨f,hf⟩:=H.s;obtain⟨i,hi,rfl⟩:=List.getElem_of_mem hs;obtain⟨-,-,j,hj,-,hv,ht,hg⟩:=hf i hi;exact⟨by rw[hv,Qba];omega,by rw[hv,Qba,ht];omega,hg⟩
theorem Tame.short {l:List SectP}(H:Tame l):Qbe l:=
 ⟨by have:=H.n;omega,fun s hs=>⟨by have:=(H.v s hs).1;omega,by have:=(H.v s hs).1;have:=(H.v s hs).2.1;omega,fun t ht=>((H.v s hs).2.2 t ht).short⟩⟩
theorem Tame.wf {l:List SectP}(H:Tame l):WfS l:=fun s hs=>(H.v s hs).2.1
theorem versB_tame {m h entry:Int}(hz:Siz m h):∀(ts:List TextP) (k:Nat) (num suf:Int) (vs:List Int),(∀t∈ts,GText t.a t.b)→(QaK m h entry k num suf vs ts).length≤196*ts.length
 |[],_,_,_,_,_=>by simp[QaK]
 |t::ts,k,num,suf,vs,hg=>by
  rw[QaK,qA,Qbk,qC];have h1:=((hg t (by simp)).pages ⟨hz.m1,hz.m2⟩ ⟨hz.h1,hz.h2⟩).2;have h2:=versB_tame (entry:=entry) hz ts (k+1) (if k=0 then num+(Qag t.a t.b m h).length else num) (if k=0 then suf else suf+(Qag t.a t.b m h).length) vs.tail (fun x hx=>hg x (by simp[hx]));omega
theorem Qd3 {m h:Int}(hz:Siz m h):∀(l:List SectP) (num:Int),(∀s∈l,s.texts.length≤4∧∀t∈s.texts,GText t.a t.b)→(Qaw m h num l).length≤784*l.length
 |[],_,_=>by simp[Qaw]
 |s::l,num,hs=>by
  rw[Qaw,qA,qC];have h1:=versB_tame (entry:=s.entry) hz s.texts 0 num 0 s.vers (hs s (by simp)).2;have h2:=Qd3 hz l (num+QaG m h s) (fun x hx=>hs x (by simp[hx]));have h3:=(hs s (by simp)).1;omega
theorem Tame.pages {m h:Int}{l:List SectP}(H:Tame l)(hz:Siz m h):(Qae m h l).length≤3920:=by
 have h1:=Qd3 hz l 0 (fun s hs=>⟨by have:=(H.v s hs).1;have:=(H.v s hs).2.1;omega,(H.v s hs).2.2⟩);have h2:=H.n;unfold Qae;omega
theorem SM.bookT {w:World}{A:Option Addr}{c:Nat}{l:List SectP}{m h:Int}(hm:SM w A c l)(hl:Tame l)(hz:Siz m h):BookOk w m h A c l:=⟨hm.t.1,hm.s,hl.short,hl.wf,⟨by have:=hz.h1;omega,by have:=hz.h2;omega⟩,by have:=hl.pages hz;omega⟩
theorem not_take {l:List Int}(h:l.Nodup){q:Nat}(hq:q<l.length):l[q]∉l.take q:=by
 intro hm;obtain⟨i,hi,e⟩:=List.getElem_of_mem hm;rw[qK] at hi;rw[List.getElem_take] at e;exact List.pairwise_iff_getElem.1 h i q (by omega) hq (by omega) e
set_option maxRecDepth 100000 in
theorem QcT {m h:Int}(hz:Siz m h)(A:Option Addr)(n c:Nat)(s:SectP)(Ag An:Option Addr)(cg cn nv:Nat)(w:World)(hT:Laid w)(hv:Sl w (fun b=>b<w.heap.size) Ag cg s.vers)(ht:Sl w (fun b=>b<w.heap.size) An cn s.texts)(hnv:s.vers.length=nv)(hnt:s.texts.length=nv)(h4:nv≤4)(hr:∀v∈s.vers,0≤v∧v≤2147483647)(hnd:s.vers.Nodup)(hg:∀t∈s.texts,GText t.a t.b):
 Calls Tryz.prog 92 #[.agg #[.int .i64 m,.int .i64 h,.slice A n c],.agg #[.int .i64 s.entry,.bool s.frozen,.slice Ag nv cg,.slice An nv cn]] w fun e w'=>e=.returned (.int .i64 0)∧Below w.heap.size w w':=by
 obtain⟨wb,hwb⟩:∃wb,(w.alloc (.cells #[.int .i64 m,.int .i64 h,.slice A n c] 25)).alloc (.cells #[.int .i64 s.entry,.bool s.frozen,.slice Ag nv cg,.slice An nv cn] 74)=wb:=⟨_,rfl⟩;have hba:Below w.heap.size w wb:=by rw[←hwb];exact(bR.alloc nL _).alloc (by simp) _
 have hx0:ABox wb w.heap.size 25 [.int .i64 m,.int .i64 h,.slice A n c]:=by rw[←hwb];exact(Below.heap_alloc _ _ _ (by simp)).trans (heap_alloc_new w _)
 have hx1:ABox wb (w.heap.size+1) 74 [.int .i64 s.entry,.bool s.frozen,.slice Ag nv cg,.slice An nv cn]:=by rw[←hwb];exact Qak (by simp)
 have hgc:nv≤cg:=by rw[←hnv];exact hv.1
 have hnc:nv≤cn:=by rw[←hnt];exact ht.1
 have HV:=Lh (hv.to hba);have HX:=Lh (ht.to hba);have HTB:=Lh (hT.to hba);have HNV:=Lh hnv;have HNX:=Lh hnt;have HR:=Lh hr;have HND:=Lh hnd;have HG:=Lh hg;have HZ:=Lh hz;have HBA:=Lh hba;have HX0:=Lh hx0;have HX1:=Lh hx1;clear hv ht hT hnv hnt hr hnd hg hz hba hx0 hx1;go_enter Tryz.func92,Tryz.ntmps92;go_upto_region 1 with(fail);(try rw[hwb]);clear hwb;have y2:=HX1.out.cell 2 rfl;go_wp2_with fail;clear y2;go_loopw [11] (fun i wr=>∃q:Nat,q≤nv∧i=.int .i64 q∧Below wb.heap.size wb wr) (fun i _=>nv-(intOf i).toNat);(case atStart=>exact⟨0,by omega,rfl,Below.refl _ _⟩);case round=>
  obtain⟨q,hq,rfl,hbl⟩:=hrel;by_cases hlt:q<nv
  ·have hqv:q<s.vers.length:=by rw[HNV.out];exact hlt
   have hqt:q<s.texts.length:=(by rw[HNX.out];exact hlt);obtain⟨bt,ot,Aa,ca,Ab,cb,rfl,-,hbt,e0,e1,ht1,ht2⟩:=Qcn (HX.out.to hbl) hqt;obtain⟨bv,ov,rfl,-,hbv,-,e9⟩:=Qbr (HV.out.to hbl) hqv;have hgt:=HG.out _ (List.getElem_mem hqt);have hrv:=HR.out _ (List.getElem_mem hqv);have hni:=not_take HND.out hqv;have hct:=containsI_any (some ⟨bv,ov,none⟩) cg (s.vers.take q) s.vers[q] wr ((HV.out.to hbl).take q (by omega)) (by rw[qK];omega);rw[List.length_take_of_le (by omega),decide_eq_false hni] at hct;obtain⟨y,hy⟩:∃y,s.texts[q]=y:=⟨_,rfl⟩;obtain⟨vq,hvq⟩:∃vq,s.vers[q]=vq:=⟨_,rfl⟩;rw[hvq] at e9 hrv hct;rw[hy] at e0 e1 ht1 ht2 hgt;have hwi:=QbF vq 0 2147483647 wr;rw[decide_eq_true hrv] at hwi;have HWI:=Lh hwi;have HCT:=Lh hct;have HGT:=Lh hgt;have HT1:=Lh ht1;have HT2:=Lh ht2;have HBL:=Lh hbl;have y2:=(HX1.out.to hbl).cell 2 rfl;have hqI:(q:Int)<(nv:Int):=(by omega);have hqc:q≤cg:=(by omega);clear hy hvq hrv hni hct hwi hgt ht1 ht2 hbl hqv hqt;go_wp2_with fail;refine HWI.out.mono ?_;rintro e w1 ⟨rfl,rfl⟩;go_wp2_with fail;refine HCT.out.mono ?_;rintro e w1 ⟨rfl,rfl⟩;go_upto_region 8 with(fail);clear y2;refine Qaf [6] (fun i=>if i=6 then SP.val (.int .i64 0) else SP.any) 8 (by kernel_rfl) (by kernel_rfl) ?_;intro T _ g hg hgm;have a0:∀x,(g x).cell? ⟨w.heap.size,0,none⟩=some (.int .i64 m):=fun x=>((HX0.out.to HBL.out).to (hg x)).cell 0 rfl
   have a1:∀x,(g x).cell? ⟨w.heap.size,1,none⟩=some (.int .i64 h):=fun x=>((HX0.out.to HBL.out).to (hg x)).cell 1 rfl
   have a2:∀x,(g x).cell? ⟨w.heap.size,2,none⟩=some (.slice A n c):=fun x=>((HX0.out.to HBL.out).to (hg x)).cell 2 rfl
   have a3:∀x,(g x).cell? ⟨w.heap.size+1,3,none⟩=some (.slice (some ⟨bt,ot,none⟩) nv cn):=fun x=>((HX1.out.to HBL.out).to (hg x)).cell 3 rfl
   have a4:∀x,(g x).cell? ⟨bt,ot+q*2,none⟩=some (.slice Aa y.a.length ca):=fun x=>((hg x).cell (p:=⟨bt,ot+q*2,none⟩) hbt).trans e0
   have a5:∀x,(g x).cell? ⟨bt,ot+q*2+1,none⟩=some (.slice Ab y.b.length cb):=fun x=>((hg x).cell (p:=⟨bt,ot+q*2+1,none⟩) hbt).trans e1
   (repeat(refine Qac (by rfl) fun Kq hq=>?_;go_big_quiet_step (fail);refine wpQuiet_nil (hq _ ?_);clear hq Kq));refine Qah (by rfl) (by rfl) (fun x hG K Q hK=>?_) (fun v x hG hp Kr hr=>?_)
   ·go_simp;go_at_call 105;refine(wrong_any Aa Ab ca cb y.a y.b m h (.slice A n c) rfl (g x) ((HTB.out.to HBL.out).to (hg x)) (HT1.out.to (hg x)) (HT2.out.to (hg x)) ⟨by have:=HZ.out.h1;omega,by have:=HZ.out.h2;omega⟩ (by have:=HGT.out.l4;omega) (by have:=HGT.out.n3;omega)).mono ?_;rintro e V1 ⟨rfl,hb1⟩;rw[HGT.out.wrong ⟨HZ.out.m1,HZ.out.m2⟩ ⟨HZ.out.h1,HZ.out.h2⟩];go_simp;exact hK _ _ hb1 rfl
   have hp:v=.int .i64 0:=hp;subst hp;(try clear hp);clear hG;go_frame;refine hr _ ?_;clear hr Kr;(repeat(refine Qac (by rfl) fun Kq hq=>?_;go_big_quiet_step (fail);refine wpQuiet_nil (hq _ ?_);clear hq Kq));refine QcZ (by kernel_rfl) (fun x hG=>?_) _;clear a0 a1 a2 a3 a4 a5 e0 e1 e9;have HB2:=Lh (HBL.out.trans ((hg x).mono HBL.out.size));clear hG hg hgm;unfold Exit.then;generalize g x=w6 at*;clear g;go_wp2_with fail;go_roundw;(case rel=>exact⟨q+1,by omega,by go_num,HB2.out⟩);case measure=>simp[intOf];omega
  ·obtain rfl:q=nv:=by omega
   have HBE:=Lh (HBA.out.trans (hbl.mono HBA.out.size));clear hbl;go_wp2_with fail;go_ret;exact⟨rfl,HBE.out⟩
structure CoreP where
 entry:Int
 ver:Int
 body:List LineP
 notes:List LineP
def PageP.core (p:PageP):CoreP:=⟨p.entry,p.ver,p.body,p.notes⟩
def coreT (e v:Int)(p:PageP):CoreP:=⟨e,v,p.body,p.notes⟩
def coreV (m h e:Int):List Int→List TextP→List CoreP
 |_,[]=>[]
 |vs,t::ts=>(Qag t.a t.b m h).map (coreT e (vs.headD 0))++coreV m h e vs.tail ts
def coreS (m h:Int)(l:List SectP):List CoreP:=l.flatMap fun s=>coreV m h s.entry s.vers s.texts
theorem Qee (e v:Int):∀(ps:List PageP) (num suf:Int) (k:Nat),(QaS e v num suf k ps).map PageP.core=ps.map (coreT e v)
 |[],_,_,_=>by simp[QaS]
 |p::ps,num,suf,k=>by
  rw[QbK,List.map_cons,List.map_cons,Qee];rfl
theorem versB_core (m h e:Int):∀(ts:List TextP) (k:Nat) (num suf:Int) (vs:List Int),(QaK m h e k num suf vs ts).map PageP.core=coreV m h e vs ts
 |[],_,_,_,_=>by simp[QaK,coreV]
 |t::ts,k,num,suf,vs=>by
  rw[QaK,List.map_append,Qee,versB_core m h e ts];rfl
theorem Qea (m h:Int):∀(l:List SectP) (num:Int),(Qaw m h num l).map PageP.core=coreS m h l
 |[],_=>rfl
 |s::l,num=>by
  rw[Qaw,List.map_append,versB_core,Qea m h l];rfl
theorem Qeb (m h:Int)(l:List SectP):(Qae m h l).map PageP.core=coreS m h l:=Qea m h l 0
theorem Qc7 (P:LineP→Prop)(notes:List (List LineP))(hn:∀n∈notes,∀x∈n,P x)(h:Nat):∀(f:Nat) (body queue:List LineP),(∀x∈body,P x)→(∀x∈queue,P x)→∀p∈setPages notes h f body queue,(∀x∈p.body,P x)∧∀x∈p.notes,P x
 |0,_,_,_,_=>by simp[setPages]
 |f+1,body,queue,h1,h2=>by
  obtain⟨k,a,b,c,d,e⟩:=Qbm notes h body 0 (min queue.length (h-1)) queue (Nat.min_le_left _ _);have hq:∀x∈(fillP notes h body 0 (min queue.length (h-1)) queue).2.2,P x:=by
   rw[d];intro x hx;rcases List.mem_append.1 hx with hx|hx
   ·exact h2 x hx
   ·obtain⟨y,-,hy⟩:=List.mem_flatMap.1 hx;unfold Qab at hy;obtain⟨q,-,hq⟩:=List.mem_flatMap.1 hy;by_cases hl:q.toNat<notes.length
    ·rw[List.getD_eq_getElem?_getD,qG hl] at hq;exact hn _ (List.getElem_mem hl) x hq
    ·rw[List.getD_eq_getElem?_getD,List.getElem?_eq_none (by omega)] at hq;simp at hq
  intro p hp;rw[setPages] at hp;split at hp
  ·simp at hp
  ·rcases List.mem_cons.1 hp with rfl|hp
   ·exact⟨fun x hx=>h1 x (List.mem_of_mem_take hx),fun x hx=>hq x (List.mem_of_mem_take hx)⟩
   ·exact Qc7 P notes hn h f _ _ (fun x hx=>h1 x (List.mem_of_mem_drop hx)) (fun x hx=>hq x (List.mem_of_mem_drop hx)) p hp
theorem versG_nodup (i j:Nat)(hi:i≤3)(hj:j≤2):(Qby i j).Nodup:=by
 unfold Qby;refine List.nodup_cons.2 ⟨fun hm=>?_,?_⟩
 ·obtain⟨k,hk,e⟩:=List.mem_map.1 hm;have:=List.mem_range.1 hk;omega
 ·rw[List.nodup_iff_pairwise_ne,List.pairwise_map];refine List.Pairwise.imp_of_mem (R:=(· < ·)) (fun {a b} _ _ hab=>?_) List.pairwise_lt_range;omega
theorem versG_range {i j:Nat}(hi:i≤3)(hj:j≤2):∀v∈Qby i j,0≤v∧v≤2147483647:=by
 intro v hv;unfold Qby at hv;rcases List.mem_cons.1 hv with rfl|hv
 ·omega
 ·obtain⟨k,hk,rfl⟩:=List.mem_map.1 hv;rw[List.mem_range] at hk;omega
structure ChkS (f k:Nat)(l:List SectP)(s:SectP):Prop where
 e0:0≤s.entry
 e1:s.entry≤65535
 fd:Qa6 l s.entry=(k:Int)
 fr:s.frozen=decide (k<f)
 n1:1≤s.vers.length
 n3:s.vers.length≤3
 nt:s.texts.length=s.vers.length
 nf:s.frozen=false→s.vers.length=1
 rg:∀v∈s.vers,0≤v∧v≤2147483647
 nd:s.vers.Nodup
 g:∀t∈s.texts,GText t.a t.b
theorem GBk.chk {m h:Int}{l:List SectP}(H:GBk m h l):∃f,∀k (hk:k<l.length),ChkS f k l l[k]:=by
 obtain⟨f,hf⟩:=H.s;have hn:=H.n;refine⟨f,fun k hk=>?_⟩;obtain⟨⟨d,hd,he⟩,h2,j,h3,h4,h5,h6,h7⟩:=hf k hk;have hvl:l[k].vers.length=j+1:=by rw[h5,Qba]
 refine⟨by omega,by omega,QdD hk rfl fun i hi e=>?_,h2,by omega,by omega,by omega,fun hfr=>by have:=h4 hfr;omega,by rw[h5];exact versG_range (by omega) h3,by rw[h5];exact versG_nodup k j (by omega) h3,h7⟩;obtain⟨⟨d2,hd2,he2⟩,-⟩:=hf i (by omega);omega
set_option maxRecDepth 100000 in
theorem check_any {m h:Int}{l:List SectP}(H:GBk m h l)(A:Option Addr)(c:Nat)(w:World)(hT:Laid w)(hs:Sl w (fun b=>b<w.heap.size) A c l)(hB:BookOk w m h A c l):
 Calls Tryz.prog 43 #[.agg #[.int .i64 m,.int .i64 h,.slice A l.length c]] w fun e w'=>e=.returned (.int .i64 0)∧Below w.heap.size w w':=by
 obtain⟨n,hn⟩:∃n,l.length=n:=⟨_,rfl⟩;obtain⟨wb,hwb⟩:∃wb,w.alloc (.cells #[.int .i64 m,.int .i64 h,.slice A n c] 25)=wb:=⟨_,rfl⟩;have hba:Below w.heap.size w wb:=by rw[←hwb];exact bR.alloc nL _
 have hx0:ABox wb w.heap.size 25 [.int .i64 m,.int .i64 h,.slice A n c]:=by rw[←hwb];exact heap_alloc_new w _
 obtain⟨f,hf⟩:=H.chk;have HF:=Lh hf;have hn5:n≤4:=by rw[←hn];exact H.n
 have hnc:n≤c:=by rw[←hn];exact hs.1
 have hm1:500≤m:=H.m1;have hm2:m≤2000:=by have:=H.m2;omega
 have hh1:4≤h:=H.h1;have hh2:h≤100:=by have:=H.h2;omega
 have hpl:(Qae m h l).length≤3920:=H.tame.pages H.siz;have HZ:=Lh H.siz;have HS:=Lh (hs.to hba);have HTB:=Lh (hT.to hba);have HBO:=Lh (hB.to hba);have HN:=Lh hn;have HBA:=Lh hba;have HX0:=Lh hx0;have HW1:=Lh (QbF m 500 2000 wb);have HW2:=Lh (QbF h 4 100 wb);have HD1:=Lh (decide_eq_true (p:=500≤m∧m≤2000) ⟨hm1,hm2⟩);have HD2:=Lh (decide_eq_true (p:=4≤h∧h≤100) ⟨hh1,hh2⟩);have HPL:=Lh hpl;rw[hn];clear hm1 hm2 hh1 hh2 hpl hs hT hB hn hba hx0 hf H;go_enter Tryz.func43,Tryz.ntmps43;go_upto_region 1 with(fail);(try rw[hwb]);clear hwb;have x0:=HX0.out.cell 0 rfl;have x1:=HX0.out.cell 1 rfl;have x2:=HX0.out.cell 2 rfl;go_wp2_with fail;refine HW1.out.mono ?_;rintro e w1 ⟨rfl,rfl⟩;rw[HD1.out];go_wp2_with fail;refine HW2.out.mono ?_;rintro e w1 ⟨rfl,rfl⟩;rw[HD2.out];go_wp2_with fail;clear x0 x1 x2;go_loopw [3,20] (fun o i wr=>∃(k:Nat) (ob:Bool),k≤n∧i=.int .i64 k∧o=.bool ob∧(ob=true→f<k)∧Below wb.heap.size wb wr) (fun _ i _=>n-(intOf i).toNat);(case atStart=>exact⟨0,false,by omega,rfl,rfl,by simp,Below.refl _ _⟩);case round=>
  obtain⟨k,ob,hk,rfl,rfl,hob,hbl⟩:=hrel;by_cases hlt:k<n
  ·have hkl:k<l.length:=by rw[HN.out];exact hlt
   obtain⟨b,o,Ag,cg,An,cn,rfl,-,hbb,e0,e1,e2,e3,hg1,hn1,-⟩:=QbO (HS.out.to hbl) hkl;have hc:=HF.out k hkl;obtain⟨x,hx⟩:∃x,l[k]=x:=⟨_,rfl⟩;rw[hx] at e0 e1 e2 e3 hg1 hn1 hc;obtain⟨nv,hnv⟩:∃nv,x.vers.length=nv:=⟨_,rfl⟩;obtain⟨fr,hfr⟩:∃fr,x.frozen=fr:=⟨_,rfl⟩;have hnt:x.texts.length=nv:=hc.nt.trans hnv;rw[hnv] at e2;rw[hnt] at e3;rw[hfr] at e1;have hcases:(fr=true∧ob=false∧1<nv)∨(fr=true∧ob=false∧nv=1)∨(fr=false∧ob=false∧nv=1∧f≤k)∨(fr=false∧ob=true∧nv=1∧f≤k):=by
    have h1:=hc.fr;have h2:=hc.nf;have h3:=hc.n1;rw[hfr] at h1 h2;rw[hnv] at h2 h3;cases fr with
    |true=>
     have h4:k<f:=of_decide_eq_true h1.symm;cases ob with
     |true=>have:=hob rfl;omega
     |false=>rcases Nat.lt_or_ge 1 nv with h5|h5
             ·exact Or.inl ⟨rfl,rfl,h5⟩
             ·exact Or.inr (Or.inl ⟨rfl,rfl,by omega⟩)
    |false=>
     have h4:¬k<f:=of_decide_eq_false h1.symm;have h5:=h2 rfl;cases ob with
     |true=>exact Or.inr (Or.inr (Or.inr ⟨rfl,rfl,h5,by omega⟩))
     |false=>exact Or.inr (Or.inr (Or.inl ⟨rfl,rfl,h5,by omega⟩))
   have hI0:¬(nv:Int)=0:=(by have:=hc.n1;omega);have hI3:nv≤3:=(by have:=hc.n3;omega);have HC:=Lh hc;have HCS:=Lh hcases;have HNV:=Lh hnv;have HNX:=Lh hnt;have HFR:=Lh hfr;obtain⟨X,hX⟩:∃X,wr.heap.size=X:=⟨_,rfl⟩;obtain⟨w2,hw2⟩:∃w2,wr.alloc (.cells #[.int .i64 x.entry,.bool fr,.slice Ag nv cg,.slice An nv cn] 74)=w2:=⟨_,rfl⟩;have hb2:Below wr.heap.size wr w2:=(by rw[←hw2];exact bR.alloc nL _);have hxx:ABox w2 X 74 [.int .i64 x.entry,.bool fr,.slice Ag nv cg,.slice An nv cn]:=(by rw[←hw2,←hX];exact heap_alloc_new wr _);have HB2:=Lh (hbl.trans (hb2.mono hbl.size));have HX2:=Lh (HX0.out.to HB2.out);have HXX:=Lh hxx;have HV2:=Lh (hg1.to hb2);have HT2:=Lh (hn1.to hb2);have hkI:(k:Int)<(n:Int):=(by omega);have hwi:=QbF x.entry 0 65535 w2;rw[decide_eq_true ⟨hc.e0,hc.e1⟩] at hwi;have hfd:=Qdm (some ⟨b,o,none⟩) c l m h x.entry w2 (HS.out.to HB2.out) (by rw[HN.out];omega);rw[HN.out,hc.fd] at hfd;have HWI:=Lh hwi;have HFD:=Lh hfd;clear hx hc hcases hnv hnt hfr hob hg1 hn1 hkl hwi hfd;go_upto_region 7 with(fail);(try rw[hX]);(try rw[hw2]);clear hX hw2 hb2 hxx hbl e0 e1 e2 e3;have p0:=HXX.out.cell 0 rfl;go_wp2_with fail;refine HWI.out.mono ?_;rintro e w3 ⟨rfl,rfl⟩;have x0:=HX2.out.cell 0 rfl;have x1:=HX2.out.cell 1 rfl;have x2:=HX2.out.cell 2 rfl;go_wp2_with fail;refine HFD.out.mono ?_;rintro e w3 ⟨rfl,hb3⟩;have HB3:=Lh (HB2.out.trans (hb3.mono HB2.out.size));have HXX3:=Lh (HXX.out.to hb3);have HX3:=Lh (HX2.out.to hb3);have hcv:=QcT HZ.out (some ⟨b,o,none⟩) n c x Ag An cg cn nv w3 (HTB.out.to HB3.out) (HV2.out.to hb3) (HT2.out.to hb3) HNV.out HNX.out (by omega) HC.out.rg HC.out.nd HC.out.g;rw[HFR.out] at hcv;have HCV:=Lh hcv;clear hb3 hcv p0 x0 x1 x2;have p0:=HXX3.out.cell 0 rfl;have p1:=HXX3.out.cell 1 rfl;have p2:=HXX3.out.cell 2 rfl;have p3:=HXX3.out.cell 3 rfl;have x0:=HX3.out.cell 0 rfl;have x1:=HX3.out.cell 1 rfl;have x2:=HX3.out.cell 2 rfl;have hI100:¬(100:Int)<(nv:Int):=(by omega);rcases HCS.out with⟨rfl,rfl,h1⟩|⟨rfl,rfl,h1⟩|⟨rfl,rfl,h1,h2⟩|⟨rfl,rfl,h1,h2⟩
   ·have hI1:(1:Int)<(nv:Int):=by omega
    clear HCS;go_wp2_with fail;refine HCV.out.mono ?_;rintro e w4 ⟨rfl,hb4⟩;have HB4:=Lh (HB3.out.trans (hb4.mono HB3.out.size));have p1:=(HXX3.out.to hb4).cell 1 rfl;clear hb4 x0 x1 x2;go_wp2_with fail;go_roundw;(case rel=>exact⟨k+1,_,by omega,by go_num,rfl,by(first|(intro hh;cases hh;done)|(intro _;omega)),HB4.out⟩);case measure=>simp[intOf];omega
   ·have hI1:¬(1:Int)<(nv:Int):=by omega
    clear HCS h1;go_wp2_with fail;refine HCV.out.mono ?_;rintro e w4 ⟨rfl,hb4⟩;have HB4:=Lh (HB3.out.trans (hb4.mono HB3.out.size));have p1:=(HXX3.out.to hb4).cell 1 rfl;clear hb4 x0 x1 x2;go_wp2_with fail;go_roundw;(case rel=>exact⟨k+1,_,by omega,by go_num,rfl,by(first|(intro hh;cases hh;done)|(intro _;omega)),HB4.out⟩);case measure=>simp[intOf];omega
   ·have hI1:¬(1:Int)<(nv:Int):=by omega
    clear HCS h1;go_wp2_with fail;refine HCV.out.mono ?_;rintro e w4 ⟨rfl,hb4⟩;have HB4:=Lh (HB3.out.trans (hb4.mono HB3.out.size));have p1:=(HXX3.out.to hb4).cell 1 rfl;clear hb4 x0 x1 x2;go_wp2_with fail;go_roundw;(case rel=>exact⟨k+1,_,by omega,by go_num,rfl,by(first|(intro hh;cases hh;done)|(intro _;omega)),HB4.out⟩);case measure=>simp[intOf];omega
   ·have hI1:¬(1:Int)<(nv:Int):=by omega
    clear HCS h1;go_wp2_with fail;refine HCV.out.mono ?_;rintro e w4 ⟨rfl,hb4⟩;have HB4:=Lh (HB3.out.trans (hb4.mono HB3.out.size));have p1:=(HXX3.out.to hb4).cell 1 rfl;clear hb4 x0 x1 x2;go_wp2_with fail;go_roundw;(case rel=>exact⟨k+1,_,by omega,by go_num,rfl,by(first|(intro hh;cases hh;done)|(intro _;omega)),HB4.out⟩);case measure=>simp[intOf];omega
  ·obtain rfl:k=n:=by omega
   have hp:=QbI (HBO.out.to hbl);rw[HN.out] at hp;have HP:=Lh hp;have HBL:=Lh hbl;have x0:=(HX0.out.to hbl).cell 0 rfl;have x1:=(HX0.out.to hbl).cell 1 rfl;have x2:=(HX0.out.to hbl).cell 2 rfl;clear hp hbl hob;go_wp2_with fail;refine HP.out.mono ?_;rintro e W3 ⟨v,R,rfl,ho,-,hb⟩;obtain⟨Ap,cp,rfl,-⟩:=ho.plain.sl;obtain⟨P,hP⟩:∃P,(Qae m h l).length=P:=⟨_,rfl⟩;have hPI:¬(16384:Int)<(P:Int):=(by have:=HPL.out;omega);have HBE:=Lh (HBA.out.trans ((HBL.out.trans (hb.mono HBL.out.size)).mono HBA.out.size));rw[hP];clear hP ho hb x0 x1 x2;go_wp2_with fail;go_ret;exact⟨rfl,HBE.out⟩
theorem GBk.noerr {m h:Int}{l:List SectP}(H:GBk m h l):chkE m h l=0:=by
 obtain⟨f,hf⟩:=H.chk;have hz:=H.siz
 have hu:UptoS m h l l.length:=fun k hk _=>by
  have hc:=hf k hk;refine OkS.sec ⟨⟨hc.e0,hc.e1⟩,by rw[hc.fd];omega,fun h=>?_,by have:=hc.n1;omega,hc.nt.symm,fun h=>by have:=hc.nf h.2;omega,by have:=hc.n3;omega,UptoV.all hc.nt.symm fun q hq ht _=>?_⟩
  ·have h1:k<f:=of_decide_eq_true (hc.fr▸h.1);have h2:=h.2;unfold openB at h2;obtain⟨x,hx,h3⟩:=List.any_eq_true.1 h2;obtain⟨j,hj,rfl⟩:=List.getElem_of_mem hx;rw[qK] at hj;rw[List.getElem_take] at h3;have h4:=(hf j (by omega)).fr;rw[decide_eq_true (show j<f by omega)] at h4;rw[h4] at h3;exact absurd h3 (by decide)
  ·unfold verX;rw[if_neg (not_not_intro (hc.rg _ (List.getElem_mem hq))),if_neg (not_take hc.nd hq)];exact(hc.g _ (List.getElem_mem ht)).wrong ⟨hz.m1,hz.m2⟩ ⟨hz.h1,hz.h2⟩
 rw[hu.all ⟨hz.m1,hz.m2⟩ ⟨hz.h1,hz.h2⟩,if_neg (by have:=H.tame.pages hz;omega)]
end Go.Proofs.YtegaapiocihcpaaGreatDoor
