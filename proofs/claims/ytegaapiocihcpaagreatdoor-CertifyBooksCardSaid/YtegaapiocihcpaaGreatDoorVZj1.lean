/- Texts of CbC. -/
import Derived.Maps.RangeWalk
import Derived.WalkKit
import Derived.WalkSpells
import Derived.WalkLawsBesides
import Derived.Deep.AppendLies
import Derived.Deep.Draws
import Derived.Lib.Hide
import Derived.BigQuiet
import Derived.Test.YtegaapiocihcpaaGreatDoorRows
import Derived.Lib.LaidTab
import Derived.LaidSub
import Derived.IntWalk
import Derived.Deep.QuietTactic
import Derived.Shelf.Spec.SlicesGrow
import Derived.Shelf.SlGeneric
import Derived.Test.YtegaapiocihcpaaGreatDoorProg
import Derived.OrdersHeld
set_option maxHeartbeats 1000000
namespace Go.Proofs.YtegaapiocihcpaaGreatDoor
open Go.RowKit
theorem bR {B:Nat}{w:World}:Below B w w:=Below.refl B w
theorem nL {n:Nat}:n≤n:=Nat.le_refl n
theorem qM {α β:Type}{l:List α}(f:α→β):(l.map f).length=l.length:=List.length_map f
theorem qA {α:Type}{l m:List α}:(l++m).length=l.length+m.length:=List.length_append
theorem qT {α:Type}{n:Nat}{l:List α}(h:n<l.length):l.take (n+1)=l.take n++[l[n]]:=List.take_succ_eq_append_getElem h
theorem qG {α:Type}{l:List α}{i:Nat}(h:i<l.length):l[i]? =some l[i]:=List.getElem?_eq_getElem h
theorem qK {α:Type}{i:Nat}{l:List α}:(l.take i).length=min i l.length:=List.length_take
theorem qC {α:Type}{a:α}{l:List α}:(a::l).length=l.length+1:=List.length_cons
theorem Lh {p:Prop}(h:p):Hid p:=h
theorem sA0 {α:Type}(l:List α)(i:Nat)(a:α):l.toArray.setIfInBounds i a=(l.set i a).toArray:=List.setIfInBounds_toArray l i a
theorem sZ0 {α:Type}{x:α}{xs:List α}{a:α}:(x::xs).set 0 a=a::xs:=rfl
theorem sS0 {α:Type}{x:α}{xs:List α}{i:Nat}{a:α}:(x::xs).set (i+1) a=x::xs.set i a:=rfl
def Kept (S:Nat→Prop)(w w':World):Prop:=∀i,S i→i<w.heap.size→w'.heap[i]? =w.heap[i]?
theorem Kept.cell {S:Nat→Prop}{w w':World}(h:Kept S w w'){b o:Nat}{u:Value}(hb:S b)(hc:w.cell? ⟨b,o,none⟩=some u):w'.cell? ⟨b,o,none⟩=some u:=
 (World.cell?_of_block (a:=⟨b,o,none⟩) (h b hb (World.block_lt_of_cell? w ⟨b,o,none⟩ hc))).trans hc
theorem Kept.below {B:Nat}{S:Nat→Prop}{w w':World}(h:Below B w w')(hS:∀i,S i→i<B):Kept S w w':=fun i hi _=>h.block i (hS i hi)
theorem Kept.all {S:Nat→Prop}{w w':World}(h:Below w.heap.size w w'):Kept S w w':=fun i _ hl=>h.block i hl
theorem Kept.grown {S:Nat→Prop}{w w':World}{row:Option Nat}(h:w.grownBy w' row)(hS:∀i,S i→some i≠row):Kept S w w':=fun i hi hl=>h.block i hl (hS i hi)
theorem Kept.mono {S S':Nat→Prop}{w w':World}(h:Kept S w w')(hS:∀i,S' i→S i):Kept S' w w':=fun i hi hl=>h i (hS i hi) hl
theorem Below.dn {B:Nat}{a w:World}(h:Below B a w)(n:Nat):Below B a (w.drewN n):=⟨h.os,h.tape,h.output,h.size,h.block⟩
theorem Qas {k:IntKind}{a b:Int}(h:a=b):Ending.returned (.int k a)=.returned (.int k b):=by rw[h]
theorem Qat {a b:Bool}(h:a=b):Ending.returned (.bool a)=.returned (.bool b):=by rw[h]
theorem QdH {α:Type}{a b:List α}{k:Nat}(ha:k<a.length)(hb:k<b.length)(h:a.take k=b.take k)(e:a[k]=b[k]):a.take (k+1)=b.take (k+1):=by
 rw[qT ha,qT hb,h,e]
theorem ne_at {α:Type}{a b:List α}{k:Nat}(ha:k<a.length)(hb:k<b.length)(e:a[k]≠b[k]):a≠b:=by
 rintro rfl;exact e rfl
theorem eq_all {α:Type}{a b:List α}{k:Nat}(ha:a.length≤k)(hb:b.length≤k)(h:a.take k=b.take k):a=b:=by
 rwa [List.take_of_length_le ha,List.take_of_length_le hb] at h
theorem Qai {W:World}{o:Obj}{B:Nat}(h:W.heap.size=B):(W.alloc o).heap[B]? =some o:=by subst h;exact heap_alloc_new W o
theorem heap_at_d {W:World}{o:Obj}{B:Nat}(h:W.heap.size=B):((W.alloc o).drew).heap[B]? =some o:=by subst h;exact heap_alloc_new W o
class Rep (α:Type) where
 size:Nat
 R:World→(Nat→Prop)→List Value→α→Prop
 len:∀{w S cs a},R w S cs a→cs.length=size
 one:∀{w S cs a},R w S cs a→∀u∈cs,u.oneCell'=true
 keep:∀{w w' S cs a},R w S cs a→Kept S w w'→R w' S cs a
 mono:∀{w S S' cs a},R w S cs a→(∀i,S i→i<w.heap.size→S' i)→R w S' cs a
def Sl {α:Type}[Rep α](w:World)(S:Nat→Prop)(A:Option Addr)(c:Nat)(l:List α):Prop:=
 l.length≤c∧c≤maxLen∧(0<l.length→∃b o,A=some ⟨b,o,none⟩∧S b∧b<w.heap.size∧ ∀i,(h:i<l.length)→∃es,Rep.R w S es l[i]∧∀j u,es[j]? =some u→w.cell? ⟨b,o+i*Rep.size α+j,none⟩=some u)
theorem Sl.keep {α:Type}[Rep α]{w w':World}{S:Nat→Prop}{A:Option Addr}{c:Nat}{l:List α}(h:Sl w S A c l)(hk:Kept S w w')(hsz:w.heap.size≤w'.heap.size):Sl w' S A c l:=by
 refine⟨h.1,h.2.1,fun hn=>?_⟩;obtain⟨b,o,e,hb,hlt,hx⟩:=h.2.2 hn;refine⟨b,o,e,hb,by omega,fun i hi=>?_⟩;obtain⟨es,hr,hc⟩:=hx i hi;exact⟨es,Rep.keep hr hk,fun j u hu=>hk.cell hb (hc j u hu)⟩
theorem Sl.mono {α:Type}[Rep α]{w:World}{S S':Nat→Prop}{A:Option Addr}{c:Nat}{l:List α}(h:Sl w S A c l)(hS:∀i,S i→i<w.heap.size→S' i):Sl w S' A c l:=by
 refine⟨h.1,h.2.1,fun hn=>?_⟩;obtain⟨b,o,e,hb,hlt,hx⟩:=h.2.2 hn;refine⟨b,o,e,hS b hb hlt,hlt,fun i hi=>?_⟩;obtain⟨es,hr,hc⟩:=hx i hi;exact⟨es,Rep.mono hr hS,hc⟩
theorem Sl.nil {α:Type}[Rep α](w:World)(S:Nat→Prop)(A:Option Addr)(c:Nat)(hc:c≤maxLen):Sl w S A c ([]:List α):=⟨by simp,hc,fun h=>absurd h (by simp)⟩
theorem Sl.at_ {α:Type}[Rep α]{w:World}{S:Nat→Prop}{A:Option Addr}{c:Nat}{l:List α}(h:Sl w S A c l){k:Nat}(hk:k<l.length):
 ∃b o es,A=some ⟨b,o,none⟩∧S b∧b<w.heap.size∧Rep.R w S es l[k]∧∀j u,es[j]? =some u→w.cell? ⟨b,o+k*Rep.size α+j,none⟩=some u:=by
 obtain⟨b,o,e,hb,hlt,hx⟩:=h.2.2 (by omega);obtain⟨es,hr,hc⟩:=hx k hk;exact⟨b,o,es,e,hb,hlt,hr,hc⟩
theorem Qaw (b o k:Nat):(⟨b,o,none⟩:Addr).add k=⟨b,o+k,none⟩:=by
 unfold Addr.add;split<;>simp_all
theorem Sl.take {α:Type}[Rep α]{w:World}{S:Nat→Prop}{A:Option Addr}{c:Nat}{l:List α}(h:Sl w S A c l)(k:Nat)(_hk:k≤l.length):Sl w S A c (l.take k):=by
 refine⟨by have:=h.1;rw[qK];omega,h.2.1,fun hn=>?_⟩;have hn':0<l.length:=by rw[qK] at hn;omega
 obtain⟨b,o,e,hb,hlt,hx⟩:=h.2.2 hn';refine⟨b,o,e,hb,hlt,fun i hi=>?_⟩;have hi':i<l.length:=by rw[qK] at hi;omega
 obtain⟨es,hr,hc⟩:=hx i hi';exact⟨es,by rw[List.getElem_take];exact hr,hc⟩
theorem Sl.drop {α:Type}[Rep α]{w:World}{S:Nat→Prop}{A:Option Addr}{c:Nat}{l:List α}(h:Sl w S A c l)(k:Nat)(hk:k≤l.length):
 Sl w S (if c=k then A else A.map (·.add (k*Rep.size α))) (c-k) (l.drop k):=by
 refine⟨by have:=h.1;rw[List.length_drop];omega,by have:=h.2.1;omega,fun hn=>?_⟩;rw[List.length_drop] at hn;obtain⟨b,o,rfl,hb,hlt,hx⟩:=h.2.2 (by omega);rw[if_neg (by have:=h.1;omega)];refine⟨b,o+k*Rep.size α,by simp[Qaw],hb,hlt,fun i hi=>?_⟩;have hi':k+i<l.length:=by rw[List.length_drop] at hi;omega
 obtain⟨es,hr,hc⟩:=hx (k+i) hi';refine⟨es,by rw[List.getElem_drop];exact hr,fun j u hu=>?_⟩;have e:=hc j u hu;rwa [Nat.add_mul,←Nat.add_assoc] at e
theorem Sl.to {α:Type}[Rep α]{w w':World}{A:Option Addr}{c:Nat}{l:List α}(h:Sl w (fun b=>b<w.heap.size) A c l)(hb:Below w.heap.size w w'):Sl w' (fun b=>b<w'.heap.size) A c l:=
 (h.keep (Kept.all hb) hb.size).mono fun i hi _=>by have:=hb.size;omega
theorem Sl.drew {α:Type}[Rep α]{w:World}{A:Option Addr}{c:Nat}{l:List α}(h:Sl w (fun b=>b<w.heap.size) A c l):Sl w.drew (fun b=>b<w.drew.heap.size) A c l:=h.to (bR.drew)
theorem Sl.block {α:Type}[Rep α]{w:World}{B:Nat}{cs:Array Value}{te:TypeId}{fr:Nat × Nat}{l:List α}{S:Nat→Prop}(hB:w.heap[B]? =some (.cells cs te fr))(hS:S B)(hm:l.length≤maxLen) (hr:∀i,(h:i<l.length)→Rep.R w S ((cs.toList.drop (i*Rep.size α)).take (Rep.size α)) l[i]):Sl w S (some ⟨B,0,none⟩) l.length l:=by
 refine⟨Nat.le_refl _,hm,fun _=>⟨B,0,rfl,hS,(Array.getElem?_eq_some_iff.1 hB).1,fun i hi=>⟨_,hr i hi,fun j u hu=>?_⟩⟩⟩;rw[Nat.zero_add,cell_of_row w B _ cs te fr hB];rw[List.getElem?_take] at hu;split at hu
 ·rw[List.getElem?_drop] at hu;simpa using hu
 ·cases hu
instance instRepList {α:Type}[Rep α]:Rep (List α) where
 size:=1
 R w S cs l:=∃A c,cs=[.slice A l.length c]∧Sl w S A c l∧l.length<9223372036854775808
 len:=by rintro w S cs l ⟨A,c,rfl,_⟩;rfl
 one:=by rintro w S cs l ⟨A,c,rfl,_⟩ u hu;simp at hu;subst hu;rfl
 keep:=by
  rintro w w' S cs l ⟨A,c,rfl,h,hl⟩ hk;refine⟨A,c,rfl,?_,hl⟩;refine⟨h.1,h.2.1,fun hn=>?_⟩;obtain⟨b,o,e,hb,hlt,hx⟩:=h.2.2 hn;have hlt':b<w'.heap.size:=by
   have e1:=hk b hb hlt;rw[Array.getElem?_eq_getElem hlt] at e1;exact(Array.getElem?_eq_some_iff.1 e1).1
  refine⟨b,o,e,hb,hlt',fun i hi=>?_⟩;obtain⟨es,hr,hc⟩:=hx i hi;exact⟨es,Rep.keep hr hk,fun j u hu=>hk.cell hb (hc j u hu)⟩
 mono:=by rintro w S S' cs l ⟨A,c,rfl,h,hl⟩ hS;exact⟨A,c,rfl,h.mono hS,hl⟩
theorem Sl.flat {α:Type}[Rep α]{w:World}{S:Nat→Prop}{A:Option Addr}{c:Nat}{l:List α}(h:Sl w S A c l)(hn:0<l.length):
 ∃(b o:Nat) (xs:List Value),A=some ⟨b,o,none⟩∧S b∧b<w.heap.size∧xs.length=l.length*Rep.size α∧(∀u∈xs,u.oneCell'=true)∧(∀j u,xs[j]? =some u→w.cell? ⟨b,o+j,none⟩=some u)∧ ∀i,(h:i<l.length)→Rep.R w S ((xs.drop (i*Rep.size α)).take (Rep.size α)) l[i]:=by
 obtain⟨b,o,rfl,hb,hlt,hx⟩:=h.2.2 hn;clear h;refine⟨b,o,?_⟩;suffices H:∀k,k≤l.length→∃xs:List Value,xs.length=k*Rep.size α∧(∀u∈xs,u.oneCell'=true)∧(∀j u,xs[j]? =some u→w.cell? ⟨b,o+j,none⟩=some u)∧ ∀i,(h:i<k)→(h':i<l.length)→Rep.R w S ((xs.drop (i*Rep.size α)).take (Rep.size α)) l[i] by
  obtain⟨xs,h1,h2,h3,h4⟩:=H l.length nL;exact⟨xs,rfl,hb,hlt,h1,h2,h3,fun i hi=>h4 i hi hi⟩
 intro k;induction k with
 |zero=>intro _;exact⟨[],by simp,by simp,by simp,fun i hi=>absurd hi (by omega)⟩
 |succ k ih=>
  intro hk;obtain⟨xs,h1,h2,h3,h4⟩:=ih (by omega);obtain⟨es,hr,hc⟩:=hx k (by omega);have hel:=Rep.len hr;refine⟨xs++es,by rw[qA,h1,hel,Nat.add_mul,Nat.one_mul],?_,?_,?_⟩
  ·intro u hu;rcases List.mem_append.1 hu with h|h
   ·exact h2 u h
   ·exact Rep.one hr u h
  ·intro j u hu;by_cases hj:j<xs.length
   ·rw[List.getElem?_append_left hj] at hu;exact h3 j u hu
   ·rw[List.getElem?_append_right (by omega)] at hu;have:=hc _ u hu;have e:o+k*Rep.size α+(j-xs.length)=o+j:=(by rw[h1] at hj ⊢;omega);rwa [e] at this
  ·intro i hi hi';by_cases hik:i<k
   ·have e:(i+1)*Rep.size α≤xs.length:=by rw[h1];exact Nat.mul_le_mul_right _ hik
    rw[Nat.add_mul,Nat.one_mul] at e;rw[List.drop_append_of_le_length (by omega),List.take_append_of_le_length (by rw[List.length_drop];omega)];exact h4 i hik hi'
   ·obtain rfl:i=k:=by omega
    rw[List.drop_append,List.drop_of_length_le (by omega),h1,Nat.sub_self,List.drop_zero,List.nil_append,List.take_of_length_le (by omega)];exact hr
def Own {α:Type}[Rep α](w:World)(base:Nat)(e:TypeId)(v:Value)(l:List α):Prop:=
 ∃xs,w.ownsRow base e (Rep.size α) v l.length xs∧(∀u∈xs,u.oneCell'=true)∧∀i,(h:i<l.length)→Rep.R w (fun b=>some b≠v.ownBlock) ((xs.drop (i*Rep.size α)).take (Rep.size α)) l[i]
section
variable {α:Type} [Rep α] {w w':World} {base:Nat} {e:TypeId} {v:Value} {l:List α}
theorem Own.nil (w:World)(base:Nat)(e:TypeId):Own w base e (.slice none 0 0) ([]:List α):=⟨[],World.ownsRow_nil _ _ _ _,by simp,fun i h=>absurd h (by simp)⟩
theorem Own.kept (h:Own w base e v l)(hk:∀i,i<w.heap.size→w'.heap[i]? =w.heap[i]?):Own w' base e v l:=by
 obtain⟨xs,hx,ho,hr⟩:=h;refine⟨xs,⟨hx.1,?_⟩,ho,fun i hi=>Rep.keep (hr i hi) (fun b _ hb=>hk b hb)⟩;rcases hx.2 with hn|⟨g,cap,cur,hv,hb,hg,rest⟩
 ·exact .inl hn
 ·refine .inr ⟨g,cap,cur,hv,hb,?_,rest⟩;rw[hk g (Array.getElem?_eq_some_iff.1 hg).1];exact hg
theorem Own.below (h:Own w base e v l)(hb:Below w.heap.size w w'):Own w' base e v l:=h.kept hb.block
theorem Own.re (h:Own w base e v l){B:Nat}(hB:B≤base):Own w B e v l:=by
 obtain⟨xs,hx,ho,hr⟩:=h;exact⟨xs,⟨hx.1,hx.2.imp id (fun⟨g,cap,cur,h1,h2,h3⟩=>⟨g,cap,cur,h1,by omega,h3⟩)⟩,ho,hr⟩
theorem Own.drew (h:Own w base e v l):Own w.drew base e v l:=h.kept fun _ _=>rfl
theorem Own.alloc (h:Own w base e v l)(o:Obj):Own (w.alloc o) base e v l:=h.kept (fun i hi=>Below.heap_alloc w o i hi)
theorem Own.form (h:Own w base e v l):∃A c,v=.slice A l.length c∧(∀a,A=some a→base≤a.block∧a.block<w.heap.size)∧l.length≤c∧c≤maxLen:=by
 obtain⟨xs,hx,_,_⟩:=h;rcases hx.2 with⟨rfl,hn⟩|⟨g,cap,cur,rfl,hb,hg,hnc,hcm,_⟩
 ·exact⟨none,0,by rw[hn],by simp,by omega,by simp[maxLen]⟩
 ·exact⟨some ⟨g,0,none⟩,cap,rfl,by rintro a ⟨⟩;exact⟨hb,(Array.getElem?_eq_some_iff.1 hg).1⟩,hnc,hcm⟩
theorem Own.lt (h:Own w base e v l):∀k,v.ownBlock=some k→base≤k∧k<w.heap.size:=by
 obtain⟨xs,hx,_,_⟩:=h;exact hx.lt
theorem Own.sl (h:Own w base e v l):∃A c,v=.slice A l.length c∧Sl w (fun b=>b<w.heap.size) A c l:=by
 obtain⟨xs,hx,ho,hr⟩:=h;rcases hx.2 with⟨rfl,hn⟩|⟨g,cap,cur,rfl,hb,hg,hnc,hcm,hcs,htake⟩
 ·exact⟨none,0,by rw[hn],by omega,by simp[maxLen],fun h=>absurd h (by omega)⟩
 ·have hlt:=(Array.getElem?_eq_some_iff.1 hg).1;refine⟨some ⟨g,0,none⟩,cap,rfl,hnc,hcm,fun _=>⟨g,0,rfl,hlt,hlt,fun i hi=>⟨_,Rep.mono (hr i hi) (fun b _ hb'=>hb'),fun j u hu=>?_⟩⟩⟩;rw[Nat.zero_add]
  have e1:=hx.cells (g:=g) rfl (i*Rep.size α+j) u (by
   rw[List.getElem?_take] at hu
   split at hu
   ·rwa [List.getElem?_drop] at hu
   ·cases hu)
  rwa [Qaw,Nat.zero_add] at e1
theorem Own.more {v':Value}{m:List α}{news:List Value}{H:Nat}(h:Own w base e v l) (hown:∀xs:List Value,w.ownsRow base e (Rep.size α) v l.length xs→w'.ownsRow base e (Rep.size α) v' (l++m).length (xs++news)) (hg:w.grownBy w' v.ownBlock) (hat:v'.ownBlock=v.ownBlock∨v'.ownBlock=some H) (hH:w.heap.size≤H) (ho':∀u∈news,u.oneCell'=true) (_hnl:news.length=m.length*Rep.size α) (hm:∀i,(h:i<m.length)→Rep.R w (fun b=>some b≠v.ownBlock) ((news.drop (i*Rep.size α)).take (Rep.size α)) m[i]):Own w' base e v' (l++m):=by
 obtain⟨xs,hx,ho,hr⟩:=h;have hxl:=hx.1;have kp:Kept (fun b=>some b≠v.ownBlock) w w':=Kept.grown hg (fun i hi=>hi);have hS:∀i,some i≠v.ownBlock→i<w.heap.size→some i≠v'.ownBlock:=by
  intro i hi hlt;rcases hat with e1|e1
  ·rw[e1];exact hi
  ·rw[e1];intro e2;injection e2 with e2;omega
 have fin:∀{cs:List Value} {a:α},Rep.R w (fun b=>some b≠v.ownBlock) cs a→Rep.R w' (fun b=>some b≠v'.ownBlock) cs a:=by
  intro cs a h;have h1:=Rep.mono (S':=fun b=>some b≠v.ownBlock∧some b≠v'.ownBlock) h (fun i hi hlt=>⟨hi,hS i hi hlt⟩);exact Rep.mono (Rep.keep h1 (kp.mono fun i hi=>hi.1)) (fun i hi _=>hi.2)
 refine⟨xs++news,hown xs hx,?_,fun i hi=>?_⟩
 ·intro u hu;rcases List.mem_append.1 hu with h|h
  ·exact ho u h
  ·exact ho' u h
 ·by_cases hil:i<l.length
  ·have e:(i+1)*Rep.size α≤xs.length:=by rw[hxl];exact Nat.mul_le_mul_right _ hil
   rw[Nat.add_mul,Nat.one_mul] at e;rw[List.drop_append_of_le_length (by omega),List.take_append_of_le_length (by rw[List.length_drop];omega),List.getElem_append_left hil];exact fin (hr i hil)
  ·have him:i-l.length<m.length:=by rw[qA] at hi;omega
   have e:i*Rep.size α=xs.length+(i-l.length)*Rep.size α:=by
    rw[hxl,←Nat.add_mul];congr 1;omega
   rw[List.getElem_append_right (by omega),List.drop_append,List.drop_of_length_le (by omega),List.nil_append,e,Nat.add_sub_cancel_left];exact fin (hm _ him)
end
theorem QbN {α:Type}[Rep α]{B:Nat}{w0 w1 w2:World}{e:TypeId}{v:Value}{l:List α}{o:Obj}(hb:Below B w0 w1)(hown:Own w1 B e v l)(hB:B≤w1.heap.size)(hg:(w1.alloc o).grownBy w2 v.ownBlock):Below B w0 w2:=
 (hb.alloc hB o).grown hg (by simp;omega) (fun k hk=>(hown.lt k hk).1)
theorem Own.setf {α:Type}[Rep α]{w:World}{base:Nat}{e:TypeId}{g n cap:Nat}{l:List α}(h:Own w base e (.slice (some ⟨g,0,none⟩) n cap) l)(k j:Nat)(hk:k<l.length)(hj:j<Rep.size α)(u:Value)(hu:u.oneCell'=true)(d':α) (hd:∀S es,Rep.R w S es l[k]→Rep.R w S (es.set j u) d') {o:Nat} (ho:o=k*Rep.size α+j):
 Own (w.setCell ⟨g,o,none⟩ u) base e (.slice (some ⟨g,0,none⟩) n cap) (l.set k d')∧w.grownBy (w.setCell ⟨g,o,none⟩ u) (some g):=by
 subst ho;obtain⟨xs,hx,ho1,hr⟩:=h;obtain rfl:n=l.length:=by
  rcases hx.2 with⟨h1,_⟩|⟨g',cap',cur,h1,_⟩
  ·cases h1
  ·cases h1;rfl
 have hst:=hx.stored (k*Rep.size α+j) u;have hxl:=hx.1;have hkk:(k+1)*Rep.size α≤xs.length:=by rw[hxl];exact Nat.mul_le_mul_right _ hk
 rw[Nat.add_mul,Nat.one_mul] at hkk;have kp:Kept (fun b=>some b≠(Value.slice (some ⟨g,0,none⟩) l.length cap).ownBlock) w (w.setCell ⟨g,k*Rep.size α+j,none⟩ u):=Kept.grown hst.2 (fun i hi=>hi);refine⟨⟨xs.set (k*Rep.size α+j) u,by rw[List.length_set];exact hst.1,?_,fun i hi=>?_⟩,hst.2⟩
 ·intro y hy;rcases List.mem_or_eq_of_mem_set hy with h|h
  ·exact ho1 y h
  ·rw[h];exact hu
 ·rw[List.length_set] at hi;rw[List.drop_set,List.getElem_set];by_cases hik:k=i
  ·subst hik;rw[if_neg (by omega),if_pos rfl,Nat.add_sub_cancel_left,List.take_set];exact Rep.keep (hd _ _ (hr k hi)) kp
  ·rw[if_neg hik];by_cases hlt:k<i
   ·have:(k+1)*Rep.size α≤i*Rep.size α:=Nat.mul_le_mul_right _ hlt;rw[Nat.add_mul,Nat.one_mul] at this;rw[if_pos (by omega)];exact Rep.keep (hr i hi) kp
   ·have:(i+1)*Rep.size α≤k*Rep.size α:=Nat.mul_le_mul_right _ (by omega:i+1≤k);rw[Nat.add_mul,Nat.one_mul] at this;rw[if_neg (by omega),List.take_set,List.set_eq_of_length_le (by rw[qK];omega)];exact Rep.keep (hr i hi) kp
theorem Own.at_ {α:Type}[Rep α]{w:World}{base:Nat}{e:TypeId}{v:Value}{l:List α}(h:Own w base e v l){k:Nat}(hk:k<l.length):
 ∃g cap es,v=.slice (some ⟨g,0,none⟩) l.length cap∧base≤g∧g<w.heap.size∧l.length≤cap∧Rep.R w (fun b=>b≠g) es l[k]∧(∀j u,es[j]? =some u→w.cell? ⟨g,k*Rep.size α+j,none⟩=some u)∧∀o,w.frozen? ⟨g,o,none⟩=false:=by
 obtain⟨xs,hx,ho,hr⟩:=h;rcases hx.2 with⟨rfl,hn⟩|⟨g,cap,cur,rfl,hb,hg,hnc,hcm,hcs,htake⟩
 ·omega
 ·have hlt:=(Array.getElem?_eq_some_iff.1 hg).1;refine⟨g,cap,_,rfl,hb,hlt,hnc,Rep.mono (hr k hk) (fun b hb' _=>by simpa[Value.ownBlock] using hb'),fun j u hu=>?_,fun o=>hx.frozenAt o⟩
  have e1:=hx.cells (g:=g) rfl (k*Rep.size α+j) u (by
   rw[List.getElem?_take] at hu
   split at hu
   ·rwa [List.getElem?_drop] at hu
   ·cases hu)
  rwa [Qaw,Nat.zero_add] at e1
theorem QdK {a b c:World}{row:Option Nat}(h:a.grownBy b row)(k:b.grownBy c row):a.grownBy c row:=
 ⟨k.os.trans h.os,k.tape.trans h.tape,k.output.trans h.output,Nat.le_trans h.size k.size,fun i hi hne=>(k.block i (Nat.lt_of_lt_of_le hi h.size) hne).trans (h.block i hi hne)⟩
theorem grown_drew {a b:World}{row:Option Nat}(h:a.grownBy b row):a.grownBy b.drew row:=⟨h.os,h.tape,h.output,h.size,h.block⟩
section
variable {P:Program} (w:World) {α:Type} [Rep α]
theorem Qb2 {o:Oper}{a:Act}{K:Act→World→Prop}{Q:Exit→Act→World→Prop}(s x:Operand)(t:TypeId) (ho:o.op=.call {callee:=.builtin .append,args:=#[s,x],argTypes:=#[t,t]}) (base:Nat) (e:TypeId) (z:Value) (bytes:Nat) (ht:P.underlying t=some (.slice e)) (hinfo:(P.info? e).map (fun i=>(i.zero,i.size,i.bytes))=some (some z,Rep.size α,bytes)) (hzs:z.cells.size=Rep.size α) (hsz:0<Rep.size α) (v:Value) (l:List α) (hs:a.eval s=v) (hown:Own w base e v l) (B:Nat) (es:Array Value) (d:α) (fr:Nat × Nat) (te:TypeId) (hx:a.eval x=.slice (some ⟨B,0,none⟩) 1 1) (hB:w.heap[B]? =some (.cells es te fr)) (hr:Rep.R w (fun b=>some b≠v.ownBlock) es.toList d) (h63:(l.length+1)*bytes≤140737488355328) (hml:l.length+1≤9223372036854775807) (hbase:base≤w.heap.size) (H:Nat) (hH:w.heap.size=H) (h:∀g cap w',Own w' base e (.slice (some ⟨g,0,none⟩) (l.length+1) cap) (l++[d])→w.grownBy w' v.ownBlock→(v.ownBlock=some g∨g=H)→g<w'.heap.size→K (a.put o.dst (.slice (some ⟨g,0,none⟩) (l.length+1) cap)) w'):o.wp P a w K Q:=by
 obtain⟨i,hi,hz,hz1,hz2⟩:=info_parts hinfo;obtain⟨xs,hx1,ho1,hr1⟩:=id hown;have hel:=Rep.len hr;refine wp_append_lies (P:=P) w s x t ho base e i z (Rep.size α) bytes ht hi hz hz1 hz2 hzs hsz v l.length xs hs hx1 ⟨B,0,none⟩ 1 1 es.toList hx (by rw[hel];omega) (World.news_of_block hB) (Rep.one hr) (by omega) (by simp only[maxLen];omega) h63 hbase H hH ?_;intro g cap w' hown' hgrow hat hlt;refine h g cap w' ?_ hgrow hat hlt;refine hown.more (news:=es.toList) (H:=H) (fun ys hy=>?_) hgrow ?_ (by omega) (Rep.one hr) (by rw[hel];simp) ?_
 ·have e1:(l++[d]).length=l.length+1:=by simp
  rw[e1];obtain rfl:xs=ys:=by
   rcases hx1.2 with⟨r1,r2⟩|⟨g1,c1,cu1,r1,_,r3,_,_,_,r4⟩
   ·have:=hx1.1;have:=hy.1;rw[r2] at*;simp at*;simp[*]
   ·rcases hy.2 with⟨q1,q2⟩|⟨g2,c2,cu2,q1,_,q3,_,_,_,q4⟩
    ·rw[r1] at q1;cases q1
    ·rw[r1] at q1;cases q1;rw[r3] at q3;cases q3;rw[←r4,←q4]
  exact hown'
 ·rcases hat with e1|e1
  ·exact .inl e1.symm
  ·exact .inr (by rw[←e1];rfl)
 ·intro i hi;obtain rfl:i=0:=by simpa using hi
  simp only[Nat.zero_mul,List.drop_zero,List.getElem_singleton];rw[List.take_of_length_le (by omega)];exact hr
theorem Qav {ops:Array Oper}{rest:List Oper}{o:Oper}{a:Act}{Q:Exit→Act→World→Prop}(hgd:o.guard=none)(s x:Operand)(t:TypeId) (ho:o.op=.call {callee:=.builtin .append,args:=#[s,x],argTypes:=#[t,t]}) (base:Nat) (e:TypeId) (z:Value) (bytes:Nat) (ht:P.underlying t=some (.slice e)) (hinfo:(P.info? e).map (fun i=>(i.zero,i.size,i.bytes))=some (some z,Rep.size α,bytes)) (hzs:z.cells.size=Rep.size α) (hsz:0<Rep.size α) (v:Value) (l:List α) (hs:a.eval s=v) (hown:Own w base e v l) (B:Nat) (es:Array Value) (d:α) (fr:Nat × Nat) (te:TypeId) (hx:a.eval x=.slice (some ⟨B,0,none⟩) 1 1) (hB:w.heap[B]? =some (.cells es te fr)) (hr:Rep.R w (fun b=>some b≠v.ownBlock) es.toList d) (h63:(l.length+1)*bytes≤140737488355328) (hml:l.length+1≤9223372036854775807) (hbase:base≤w.heap.size) (H:Nat) (hH:w.heap.size=H) (h:∀g cap w',Own w' base e (.slice (some ⟨g,0,none⟩) (l.length+1) cap) (l++[d])→w.grownBy w' v.ownBlock→(v.ownBlock=some g∨g=H)→g<w'.heap.size→wpList P ops Q rest (a.put o.dst (.slice (some ⟨g,0,none⟩) (l.length+1) cap)) w'):wpList P ops Q (o::rest) a w:=
 wpList_plain hgd fun _ hK=>Qb2 w s x t ho base e z bytes ht hinfo hzs hsz v l hs hown B es d fr te hx hB hr h63 hml hbase H hH fun g cap w' h2 h3 h4 h5=>hK _ _ (h g cap w' h2 h3 h4 h5)
theorem step_push {ops:Array Oper}{o:Oper}{a:Act}{K:Act→World→Prop}{Q:Exit→Act→World→Prop}{E:Prop}(hgd:o.guard=none)(s x:Operand)(t:TypeId) (ho:o.op=.call {callee:=.builtin .append,args:=#[s,x],argTypes:=#[t,t]}) (base:Nat) (e:TypeId) (z:Value) (bytes:Nat) (ht:P.underlying t=some (.slice e)) (hinfo:(P.info? e).map (fun i=>(i.zero,i.size,i.bytes))=some (some z,Rep.size α,bytes)) (hzs:z.cells.size=Rep.size α) (hsz:0<Rep.size α) (v:Value) (l:List α) (hs:a.eval s=v) (hown:Own w base e v l) (B:Nat) (es:Array Value) (d:α) (fr:Nat × Nat) (te:TypeId) (hx:a.eval x=.slice (some ⟨B,0,none⟩) 1 1) (hB:w.heap[B]? =some (.cells es te fr)) (hr:Rep.R w (fun b=>some b≠v.ownBlock) es.toList d) (h63:(l.length+1)*bytes≤140737488355328) (hml:l.length+1≤9223372036854775807) (hbase:base≤w.heap.size) (H:Nat) (hH:w.heap.size=H) (h:∀g cap w',Own w' base e (.slice (some ⟨g,0,none⟩) (l.length+1) cap) (l++[d])→w.grownBy w' v.ownBlock→(v.ownBlock=some g∨g=H)→g<w'.heap.size→K (a.put o.dst (.slice (some ⟨g,0,none⟩) (l.length+1) cap)) w'):
 if Region.wanted o (yielded ops a.tmps)=true then Oper.wp P o a w K Q else E:=by
 have hw:Region.wanted o (yielded ops a.tmps)=true:=by simp[Region.wanted,hgd]
 rw[if_pos hw];exact Qb2 w s x t ho base e z bytes ht hinfo hzs hsz v l hs hown B es d fr te hx hB hr h63 hml hbase H hH h
theorem run_cat (base:Nat)(t ty e:TypeId)(z:Value)(bytes:Nat)(ht:P.underlying t=some (.slice e))(hinfo:(P.info? e).map (fun i=>(i.zero,i.size,i.bytes))=some (some z,Rep.size α,bytes)) (hzs:z.cells.size=Rep.size α) (hsz:0<Rep.size α) (v:Value) (l:List α) (hown:Own w base e v l) (A:Option Addr) (c n:Nat) (m:List α) (hn:m.length=n) (S:Nat→Prop) (hm:Sl w S A c m) (hS:∀i,S i→i<w.heap.size→some i≠v.ownBlock) (hbytes:(l.length+n)*bytes≤140737488355328) (hml:l.length+n≤9223372036854775807) (hbase:base≤w.heap.size):
 ∃v' w',(Builtin.append_ #[t,t] ty #[v,.slice A n c]).run P w=.ok v' w'∧Own w' base e v' (l++m)∧w.grownBy w' v.ownBlock∧(v'.ownBlock=v.ownBlock∨v'.ownBlock=some w.heap.size):=by
 obtain⟨i,hi,hz,hz1,hz2⟩:=info_parts hinfo;obtain⟨xs,hx1,ho1,hr1⟩:=id hown;subst hn;by_cases h0:0<m.length
 ·obtain⟨b,o,news,rfl,hSb,hlt,hnl,hn1,hnc,hnr⟩:=hm.flat h0;obtain⟨v',w',hrun,h2,h3,_,h5⟩:=run_append_own_at (P:=P) w base t ty e i z (Rep.size α) bytes ht hi hz hz1 hz2 hzs hsz v l.length xs hx1 ⟨b,o,none⟩ m.length c news hnl (fun j u hu=>by rw[Qaw];exact hnc j u hu) hn1 (by simp only[maxLen];omega) hbytes hbase
  refine⟨v',w',hrun,?_,h3,h5⟩;refine hown.more (news:=news) (H:=w.heap.size) (fun ys hy=>?_) h3 h5 nL hn1 hnl (fun i hi=>Rep.mono (hnr i hi) (fun b hb hl=>hS b hb hl));have e1:(l++m).length=l.length+m.length:=(by simp);rw[e1];obtain rfl:xs=ys:=by
   rcases hx1.2 with⟨r1,r2⟩|⟨g1,c1,cu1,r1,_,r3,_,_,_,r4⟩
   ·have:=hx1.1;have:=hy.1;rw[r2] at*;simp at*;simp[*]
   ·rcases hy.2 with⟨q1,q2⟩|⟨g2,c2,cu2,q1,_,q3,_,_,_,q4⟩
    ·rw[r1] at q1;cases q1
    ·rw[r1] at q1;cases q1;rw[r3] at q3;cases q3;rw[←r4,←q4]
  exact h2
 ·obtain rfl:m=[]:=List.eq_nil_of_length_eq_zero (by omega);refine⟨v,w,?_,by simpa using hown,World.grownBy.refl _ _,.inl rfl⟩;rcases A with _|a
  ·rcases hx1.2 with⟨rfl,r2⟩|⟨g,cap,cur,rfl,_,_,hnc,_⟩
   ·simp[Builtin.append_,run_underlying ht,sizeOf,typeInfo,hi,Builtin.lenOf,Builtin.firstCells]
   ·simp[Builtin.append_,run_underlying ht,sizeOf,typeInfo,hi,Builtin.lenOf,Builtin.firstCells,hnc,storeCells]
  ·rcases hx1.2 with⟨rfl,r2⟩|⟨g,cap,cur,rfl,_,_,hnc,_⟩
   ·simp[Builtin.append_,run_underlying ht,sizeOf,typeInfo,hi,Builtin.lenOf,Builtin.firstCells,loadCells,loadCellsFrom]
   ·simp[Builtin.append_,run_underlying ht,sizeOf,typeInfo,hi,Builtin.lenOf,Builtin.firstCells,hnc,storeCells,loadCells,loadCellsFrom]
theorem wp_cat {o:Oper}{a:Act}{K:Act→World→Prop}{Q:Exit→Act→World→Prop}(s x:Operand)(t:TypeId) (ho:o.op=.call {callee:=.builtin .append,args:=#[s,x],argTypes:=#[t,t]}) (base:Nat) (e:TypeId) (z:Value) (bytes:Nat) (ht:P.underlying t=some (.slice e)) (hinfo:(P.info? e).map (fun i=>(i.zero,i.size,i.bytes))=some (some z,Rep.size α,bytes)) (hzs:z.cells.size=Rep.size α) (hsz:0<Rep.size α) (v:Value) (l:List α) (hs:a.eval s=v) (hown:Own w base e v l) (A:Option Addr) (c n:Nat) (m:List α) (hx:a.eval x=.slice A n c) (hn:m.length=n) (S:Nat→Prop) (hm:Sl w S A c m) (hS:∀i,S i→i<w.heap.size→some i≠v.ownBlock) (hbytes:(l.length+n)*bytes≤140737488355328) (hml:l.length+n≤9223372036854775807) (hbase:base≤w.heap.size) (h:∀v' w',Own w' base e v' (l++m)→w.grownBy w' v.ownBlock→(v'.ownBlock=v.ownBlock∨v'.ownBlock=some w.heap.size)→K (a.put o.dst v') w'):o.wp P a w K Q:=by
 obtain⟨v',w',hrun,h2,h3,h4⟩:=run_cat (P:=P) w base t o.type e z bytes ht hinfo hzs hsz v l hown A c n m hn S hm hS hbytes hml hbase;unfold Oper.wp execOp;simp only[ho,resolve,invoke,builtin,Sem.run_bind,Sem.run_pure,Result.andThen_ok,List.map_toArray,List.map_cons,List.map_nil,hs,hx,hrun];exact h v' w' h2 h3 h4
theorem QaC {ops:Array Oper}{rest:List Oper}{o:Oper}{a:Act}{Q:Exit→Act→World→Prop}(hgd:o.guard=none)(s x:Operand)(t:TypeId) (ho:o.op=.call {callee:=.builtin .append,args:=#[s,x],argTypes:=#[t,t]}) (base:Nat) (e:TypeId) (z:Value) (bytes:Nat) (ht:P.underlying t=some (.slice e)) (hinfo:(P.info? e).map (fun i=>(i.zero,i.size,i.bytes))=some (some z,Rep.size α,bytes)) (hzs:z.cells.size=Rep.size α) (hsz:0<Rep.size α) (v:Value) (l:List α) (hs:a.eval s=v) (hown:Own w base e v l) (A:Option Addr) (c n:Nat) (m:List α) (hx:a.eval x=.slice A n c) (hn:m.length=n) (S:Nat→Prop) (hm:Sl w S A c m) (hS:∀i,S i→i<w.heap.size→some i≠v.ownBlock) (hbytes:(l.length+n)*bytes≤140737488355328) (hml:l.length+n≤9223372036854775807) (hbase:base≤w.heap.size) (h:∀v' w',Own w' base e v' (l++m)→w.grownBy w' v.ownBlock→(v'.ownBlock=v.ownBlock∨v'.ownBlock=some w.heap.size)→wpList P ops Q rest (a.put o.dst v') w'):wpList P ops Q (o::rest) a w:=
 wpList_plain hgd fun _ hK=>wp_cat w s x t ho base e z bytes ht hinfo hzs hsz v l hs hown A c n m hx hn S hm hS hbytes hml hbase fun v' w' h2 h3 h4=>hK _ _ (h v' w' h2 h3 h4)
theorem Own.made (w:World)(base:Nat)(e:TypeId)(hb:base≤w.heap.size):Own (w.alloc (.cells #[] e)) base e (.slice (some ⟨w.heap.size,0,none⟩) 0 0) ([]:List α):=
 ⟨[],World.ownsRow_made w #[] 0 hb (by simp[maxLen]) (by simp),by simp,fun i h=>absurd h (by simp)⟩
theorem Own.lit (w:World)(base:Nat)(e:TypeId)(cs:Array Value)(l:List α)(hb:base≤w.heap.size)(hm:l.length≤maxLen)(hs:cs.size=l.length*Rep.size α)(h1:∀u∈cs.toList,u.oneCell'=true) (hr:∀i,(h:i<l.length)→Rep.R (w.alloc (.cells cs e)) (fun b=>b≠w.heap.size) ((cs.toList.drop (i*Rep.size α)).take (Rep.size α)) l[i]):
 Own (w.alloc (.cells cs e)) base e (.slice (some ⟨w.heap.size,0,none⟩) l.length l.length) l:=
 ⟨cs.toList,World.ownsRow_lit w cs l.length hb hm hs,h1,fun i h=>Rep.mono (hr i h) (fun b hb _=>by simpa[Value.ownBlock] using hb)⟩
theorem QaL {B:Nat}{w0 w1 w2:World}{e:TypeId}{v:Value}{l:List α}(hb:Below B w0 w1)(hown:Own w1 B e v l)(hB:B≤w1.heap.size)(hg:w1.grownBy w2 v.ownBlock):Below B w0 w2:=
 hb.grown hg hB (fun k hk=>(hown.lt k hk).1)
end
end Go.Proofs.YtegaapiocihcpaaGreatDoor
namespace Go.Proofs.YtegaapiocihcpaaGreatDoor
abbrev W32:=BitVec 32
def QbK (x:W32)(n:Nat):W32:=(x <<< (32-n)) ||| (x >>> n)
def sg0 (x:W32):W32:=QbK x 7 ^^^ QbK x 18 ^^^ (x >>> 3)
def sg1 (x:W32):W32:=QbK x 17 ^^^ QbK x 19 ^^^ (x >>> 10)
def bg0 (x:W32):W32:=QbK x 2 ^^^ QbK x 13 ^^^ QbK x 22
def bg1 (x:W32):W32:=QbK x 6 ^^^ QbK x 11 ^^^ QbK x 25
def chW (e f g:W32):W32:=g ^^^ (e &&& (f ^^^ g))
def majW (a b c:W32):W32:=(a &&& b) ||| (c &&& (a ||| b))
def KSZ:List Nat:=[0x428a2f98,0x71374491,0xb5c0fbcf,0xe9b5dba5,0x3956c25b,0x59f111f1,0x923f82a4,0xab1c5ed5,0xd807aa98,0x12835b01,0x243185be,0x550c7dc3,0x72be5d74,0x80deb1fe,0x9bdc06a7,0xc19bf174,0xe49b69c1,0xefbe4786,0x0fc19dc6,0x240ca1cc,0x2de92c6f,0x4a7484aa,0x5cb0a9dc,0x76f988da,0x983e5152,0xa831c66d,0xb00327c8,0xbf597fc7,0xc6e00bf3,0xd5a79147,0x06ca6351,0x14292967,0x27b70a85,0x2e1b2138,0x4d2c6dfc,0x53380d13,0x650a7354,0x766a0abb,0x81c2c92e,0x92722c85,0xa2bfe8a1,0xa81a664b,0xc24b8b70,0xc76c51a3,0xd192e819,0xd6990624,0xf40e3585,0x106aa070,0x19a4c116,0x1e376c08,0x2748774c,0x34b0bcb5,0x391c0cb3,0x4ed8aa4a,0x5b9cca4f,0x682e6ff3,0x748f82ee,0x78a5636f,0x84c87814,0x8cc70208,0x90befffa,0xa4506ceb,0xbef9a3f7,0xc67178f2]
def put8 (x:W32)(c:UInt8):W32:=(x <<< 8) ||| BitVec.ofNat 32 c.toNat
def word16 (b:List UInt8)(i:Nat):W32:=put8 (put8 (put8 (put8 0 (b.getD (4*i) 0)) (b.getD (4*i+1) 0)) (b.getD (4*i+2) 0)) (b.getD (4*i+3) 0)
def nextW (l:List W32)(t:Nat):W32:=l.getD (t-16) 0+sg0 (l.getD (t-15) 0)+(l.getD (t-7) 0+sg1 (l.getD (t-2) 0))
def QaF (b:List UInt8):Nat→List W32
 |0=>[]
 |t+1=>QaF b t++[if t<16 then word16 b t else nextW (QaF b t) t]
def rnd (v:List W32)(k w:W32):List W32:=
 match v with
 |[a,b,c,d,e,f,g,h]=>let one:=h+bg1 e+chW e f g+k+w;[one+(bg0 a+majW a b c),a,b,c,d+one,e,f,g]
 |v=>v
def rnds (h ws:List W32):Nat→List W32
 |0=>h
 |n+1=>rnd (rnds h ws n) (BitVec.ofNat 32 (KSZ.getD n 0)) (ws.getD n 0)
def blk (h:List W32)(b:List UInt8):List W32:=List.zipWith (· +·) h (rnds h (QaF b 64) 64)
def H0:List W32:=[0x6a09e667,0xbb67ae85,0x3c6ef372,0xa54ff53a,0x510e527f,0x9b05688c,0x1f83d9ab,0x5be0cd19]
def QdZ (h:List W32)(b:List UInt8):Nat→List W32
 |0=>h
 |n+1=>blk (QdZ h b n) (b.drop (64*n))
theorem QaI (b:List UInt8):∀t,(QaF b t).length=t
 |0=>rfl
 |t+1=>by rw[QaF,qA,QaI b t];rfl
theorem rnd_length {v:List W32}(h:v.length=8)(k w:W32):(rnd v k w).length=8:=by
 match v,h with
 |[_,_,_,_,_,_,_,_],_=>rfl
theorem QcP {h:List W32}(hl:h.length=8)(ws:List W32):∀n,(rnds h ws n).length=8
 |0=>hl
 |n+1=>rnd_length (QcP hl ws n) _ _
theorem blk_length {h:List W32}(hl:h.length=8)(b:List UInt8):(blk h b).length=8:=by
 rw[blk,List.length_zipWith,QcP hl,hl];rfl
theorem Qa7 {h:List W32}(hl:h.length=8)(b:List UInt8):∀n,(QdZ h b n).length=8
 |0=>hl
 |n+1=>blk_length (Qa7 hl b n) _
theorem word16_cong {a b:List UInt8}(i:Nat)(hi:i<16)(h:∀j,j<64→a.getD j 0=b.getD j 0):word16 a i=word16 b i:=by
 unfold word16;rw[h _ (by omega),h _ (by omega),h _ (by omega),h _ (by omega)]
theorem sched_cong {a b:List UInt8}(h:∀j,j<64→a.getD j 0=b.getD j 0):∀t,QaF a t=QaF b t
 |0=>rfl
 |t+1=>by
  rw[QaF,QaF,sched_cong h t];by_cases ht:t<16
  ·rw[if_pos ht,if_pos ht,word16_cong t ht h]
  ·rw[if_neg ht,if_neg ht]
theorem blk_cong {a b:List UInt8}(v:List W32)(h:∀j,j<64→a.getD j 0=b.getD j 0):blk v a=blk v b:=by
 unfold blk;rw[sched_cong h]
theorem getD_drop {α:Type}(l:List α)(n j:Nat)(d:α):(l.drop n).getD j d=l.getD (n+j) d:=by
 simp[List.getD_eq_getElem?_getD,List.getElem?_drop]
theorem Qb1 {α:Type}(a b:List α)(j:Nat)(d:α)(h:j<a.length):(a++b).getD j d=a.getD j d:=by
 simp[List.getD_eq_getElem?_getD,List.getElem?_append_left h]
theorem QcQ (h:List W32)(a b:List UInt8):∀n,64*n≤a.length→QdZ h (a++b) n=QdZ h a n
 |0,_=>rfl
 |n+1,hn=>by
  rw[QdZ,QdZ,QcQ h a b n (by omega)];exact blk_cong _ fun j hj=>by rw[getD_drop,getD_drop,Qb1 _ _ _ _ (by omega)]
theorem Qeu (h:List W32)(b:List UInt8)(m:Nat):∀n,QdZ (QdZ h b m) (b.drop (64*m)) n=QdZ h b (m+n)
 |0=>rfl
 |n+1=>by rw[QdZ,Qeu h b m n,List.drop_drop,←Nat.add_assoc m n 1,QdZ,show 64*m+64*n=64*(m+n) by omega]
def be8 (n:Nat):List UInt8:=[UInt8.ofNat (n >>> 56),UInt8.ofNat (n >>> 48),UInt8.ofNat (n >>> 40),UInt8.ofNat (n >>> 32),UInt8.ofNat (n >>> 24),UInt8.ofNat (n >>> 16),UInt8.ofNat (n >>> 8),UInt8.ofNat n]
def be4 (w:W32):List UInt8:=[UInt8.ofNat (w.toNat >>> 24),UInt8.ofNat (w.toNat >>> 16),UInt8.ofNat (w.toNat >>> 8),UInt8.ofNat w.toNat]
def Qci (n:Nat):List UInt8:=128::(List.replicate ((119-n%64)%64) 0++be8 (n*8%18446744073709551616))
theorem padOf_length (n:Nat):(n+(Qci n).length)%64=0:=by
 unfold Qci be8;simp only[qC,qA,List.length_replicate,List.length_nil];omega
def sha (b:List UInt8):List UInt8:=(QdZ H0 (b++Qci b.length) ((b.length+(Qci b.length).length)/64)).flatMap be4
def QcF (b:List UInt8):List UInt8:=sha (0::b)
def nodeH (a b:List UInt8):List UInt8:=sha (1::(a++b))
theorem Qcj:∀(l:List W32),(l.flatMap be4).length=4*l.length
 |[]=>rfl
 |x::l=>by rw[List.flatMap_cons,qA,Qcj l,qC];unfold be4;simp only[qC,List.length_nil];omega
theorem Qan (b:List UInt8):(sha b).length=32:=by rw[sha,Qcj,Qa7 rfl]
end Go.Proofs.YtegaapiocihcpaaGreatDoor
namespace Go.Proofs.YtegaapiocihcpaaGreatDoor
open Go.RowKit
theorem Qa2 {P:Program}{id:Nat}{Q:Exit→Act→World→Prop}{a:Act}{w:World}{l:List Oper}(hm:P.follows .mixedOrders=true)(hB:Region.lexB .any l.toArray=true)
 (h:∀(T:Type) (_:Nonempty T) (f:T→World),(∀d,Below w.heap.size w (f d))→(∀d w',Below (f d).heap.size (f d) w'→∃m,w'=f m)→ wpQuiet P l.toArray (fun w'=>∃n,w'=f n) (fun a'=>∀w',(∃n,w'=f n)→Q .normal a' w') l a):(Code.region id l.toArray true).wp P Q a w:=by
 refine wp_region_quiet (C:=fun w'=>∃n,w'=(Subtype.val:{x:World // Below w.heap.size w x}→World) n) hm hB ⟨⟨_,(Below.refl _ w).drew⟩,rfl⟩ ?_;rw[List.toList_toArray];exact h _ ⟨⟨_,(Below.refl _ w).drew⟩⟩ Subtype.val (fun d=>d.2) (fun d w' hb=>⟨⟨w',d.2.trans (hb.mono d.2.size)⟩,rfl⟩)
def u (x:W32):Int:=(x.toNat:Int)
theorem u_bd (x:W32):0≤u x∧u x<4294967296:=by have:=x.isLt;unfold u;omega
theorem Qdb (n:Int):IntKind.u32.wrap n=n%4294967296:=by
 unfold IntKind.wrap;rfl
theorem Qdj (x:W32):BitVec.ofInt 32 (u x)=x:=by
 unfold u;apply BitVec.eq_of_toNat_eq;rw[BitVec.toNat_ofInt];have:=x.isLt;omega
theorem Qeh (x:W32):IntKind.u32.wrap (x.toNat:Int)=u x:=by
 rw[Qdb];have:=x.isLt;unfold u;omega
theorem u_xor (a b:W32):bits .xor .u32 (u a) (u b)=u (a ^^^ b):=by
 have:bits .xor .u32 (u a) (u b)=IntKind.u32.wrap ((BitVec.ofInt 32 (u a) ^^^ BitVec.ofInt 32 (u b)).toNat:Int):=rfl;rw[this,Qdj,Qdj,Qeh]
theorem u_and (a b:W32):bits .and .u32 (u a) (u b)=u (a &&& b):=by
 have:bits .and .u32 (u a) (u b)=IntKind.u32.wrap ((BitVec.ofInt 32 (u a) &&& BitVec.ofInt 32 (u b)).toNat:Int):=rfl;rw[this,Qdj,Qdj,Qeh]
theorem u_or (a b:W32):bits .or .u32 (u a) (u b)=u (a ||| b):=by
 have:bits .or .u32 (u a) (u b)=IntKind.u32.wrap ((BitVec.ofInt 32 (u a) ||| BitVec.ofInt 32 (u b)).toNat:Int):=rfl;rw[this,Qdj,Qdj,Qeh]
theorem u_add (a b:W32):IntKind.u32.wrap (u a+u b)=u (a+b):=by
 rw[Qdb];unfold u;rw[BitVec.toNat_add];omega
theorem Qcu (a b:W32):(u a+u b)%4294967296=u (a+b):=by rw[←Qdb];exact u_add a b
theorem u_shr (x:W32)(n:Nat):u x/2^n=u (x >>> n):=by
 unfold u;rw[BitVec.toNat_ushiftRight,Nat.shiftRight_eq_div_pow];norm_cast
theorem u_shl (x:W32)(n:Nat):IntKind.u32.wrap (u x*2^n)=u (x <<< n):=by
 rw[Qdb];unfold u;rw[BitVec.toNat_shiftLeft,Nat.shiftLeft_eq,Int.natCast_emod,Int.natCast_mul,Int.natCast_pow];rfl
theorem u_shr3 (x:W32):u x/(8:Int)=u (x >>> 3):=u_shr x 3
theorem u_shr10 (x:W32):u x/(1024:Int)=u (x >>> 10):=u_shr x 10
theorem u_shl8 (x:W32):IntKind.u32.wrap (u x*(256:Int))=u (x <<< 8):=u_shl x 8
theorem u_put8 (x:W32)(c:UInt8):bits .or .u32 (u (x <<< 8)) (c.toNat:Int)=u (put8 x c):=by
 have h:((c.toNat:Nat):Int)=u (BitVec.ofNat 32 c.toNat):=by unfold u;rw[BitVec.toNat_ofNat,Nat.mod_eq_of_lt (Nat.lt_of_lt_of_le c.toNat_lt (by decide))]
 rw[h,u_or];rfl
theorem wrap_byte (c:UInt8):IntKind.u32.wrap (c.toNat:Int)=(c.toNat:Int):=by
 rw[Qdb];have:=c.toNat_lt;omega
theorem gK:Tryz.prog.globalNamed "rollbook/digest.rounds" =some 1:=by kernel_rfl
def KLaid (w:World):Prop:=Lib.TabIs Tryz.prog w "rollbook/digest.rounds" .u32 (KSZ.map fun k:Nat=>(k:Int))
theorem KLaid.row {w:World}(h:KLaid w):∃t fr,w.heap[1]? =some (.cells (KSZ.map fun k:Nat=>Value.int .u32 (k:Int)).toArray t fr):=by
 unfold KLaid Lib.TabIs World.var? at h;rw[gK] at h;simp only[Option.bind_some,List.map_map] at h;split at h
 ·rename_i cs t fr hc;rw[hc];simp only[Option.some.injEq] at h;exact⟨_,_,by rw[h];rfl⟩
 ·cases h
theorem KLaid.to {w w':World}(h:KLaid w)(hb:Below w.heap.size w w'):KLaid w':=by
 obtain⟨t,fr,hr⟩:=h.row;unfold KLaid Lib.TabIs World.var? at h ⊢;rw[gK] at h ⊢;simp only[Option.bind_some] at h ⊢;rw[hb.block _ (Array.getElem?_eq_some_iff.1 hr).1];exact h
theorem KS_bd:∀k,k<64→KSZ.getD k 0<4294967296:=by decide +kernel
theorem KS_at (k:Nat)(h:k<64):(KSZ.map fun k:Nat=>Value.int .u32 (k:Int)).toArray[k]? =some (.int .u32 (u (BitVec.ofNat 32 (KSZ.getD k 0)))):=by
 have h1:=KS_bd k h;have h2:k<KSZ.length:=h;simp only[List.getElem?_toArray,List.getElem?_map,qG h2,Option.map_some];rw[List.getD_eq_getElem?_getD,qG h2,Option.getD_some] at*;unfold u;rw[BitVec.toNat_ofNat,Nat.mod_eq_of_lt h1]
theorem Qbu (x:W32)(n:Nat)(z:Int)(hz:z= -(n:Int))(h1:1≤n)(hn:n≤31)(w:World):
 Calls Tryz.prog 210 #[.int .u32 (u x),.int .i64 z] w fun e w'=>e=.returned (.int .u32 (u (QbK x n)))∧w=w':=by
 have hs:bits BinOp.and IntKind.u64 (IntKind.u64.wrap z) 31=((32-n:Nat):Int):=by
  subst hz;have:∀n:Nat,n<32→1≤n→bits BinOp.and IntKind.u64 (IntKind.u64.wrap (-(n:Int))) 31=((32-n:Nat):Int):=(by decide +kernel);exact this n (by omega) h1
 have hc:(32-n)+n=32:=by omega
 have HE:Hid (u (QbK x n)=bits .or .u32 (IntKind.u32.wrap (u x*2^(32-n))) (u x/2^n)):=Lh (by rw[u_shr,u_shl,u_or];rfl);have hb:=u_bd x;clear hz;generalize hm:(32-n:Nat)=m at*;have Hm:=Lh hm;have hm1:(m:Int)≤31:=by omega
 have hm0:(0:Int)≤(m:Int):=by omega
 have hm2:IntKind.u64.wrap (32-(m:Int))=(n:Int):=by rw[show(32-(m:Int))=(n:Int) by omega];exact IntWalk.u64_in _ (by omega)
 have hn1:(n:Int)≤32:=by omega
 have hm3:(m:Int)≤32:=by omega
 clear hm;generalize u x=X at*;go_enter Tryz.func210,Tryz.ntmps210;go_wp2_with fail;go_ret;exact⟨Qas HE.out.symm,rfl⟩
def I64 (n:Int):Prop:= -9223372036854775808≤n∧n≤9223372036854775807
def wTab:List Int:=[4,6,8,8,12,10,4,6,6,8,8,4,6,4,6,8,8,8,8,8,8,8,8,8,8,4,4,8,8,8,8,12,10,10,10,10,10,10,10,10,6,10,10,10,12,10,10,10,10,10,10,10,10,10,12,10,10,10,0,6,0,8,8,4,8,8,8,8,8,6,8,8,4,4,8,4,12,8,8,8,8,6,8,6,8,8,12,8,8,8,6,4,6,8]
theorem gW:Tryz.prog.globalNamed "rollbook/glyph.widths" =some 0:=by kernel_rfl
def gw (c:Nat):Int:=if c<33 then 0 else wTab.getD (c-33) 0
theorem gw_bd:∀c,c<256→0≤gw c∧gw c≤12:=by decide +kernel
theorem gw_pos:∀c,c<256→gw c=0∨(4≤gw c∧gw c%2=0):=by decide +kernel
theorem gw_lo:∀c,c<33→gw c=0:=by decide +kernel
theorem gw_hi:∀c,c<256→127≤c→gw c=0:=by decide +kernel
def Laid (w:World):Prop:=Lib.TabIs Tryz.prog w "rollbook/glyph.widths" .u8 wTab
theorem Laid.cell {w:World}(h:Laid w)(d:Nat)(hd:d<94):w.cell? ⟨0,d,none⟩=some (.int .u8 (gw (d+33))):=by
 have:=Lib.TabIs.cell h gW d hd;rw[this];unfold gw;rw[if_neg (by omega),Nat.add_sub_cancel]
theorem TabIs_keep {n:String}{g:Nat}{k:IntKind}{zs:List Int}{w w':World}(hg:Tryz.prog.globalNamed n=some g)(h:Lib.TabIs Tryz.prog w n k zs)(hb:Below w.heap.size w w'):Lib.TabIs Tryz.prog w' n k zs:=by
 unfold Lib.TabIs World.var? at h ⊢;rw[hg] at h ⊢;simp only[Option.bind_some] at h ⊢;have hlt:g<w.heap.size:=by
  rcases Nat.lt_or_ge g w.heap.size with h'|h'
  ·exact h'
  ·rw[Array.getElem?_eq_none h'] at h;cases h
 rw[hb.block g hlt];exact h
theorem Laid.to {w w':World}(h:Laid w)(hb:Below w.heap.size w w'):Laid w':=TabIs_keep gW h hb
def sumW:List UInt8→Int
 |[]=>0
 |c::r=>gw c.toNat+sumW r
def okW (l:List UInt8):Bool:=l.all fun c=>gw c.toNat != 0
def QaR (s:ByteArray):Int:=if 40<s.size then 0 else if okW s.data.toList then sumW s.data.toList else 0
def QbS (s:ByteArray):Bool:=decide (1≤s.size∧s.size≤40)&&okW s.data.toList
theorem sumW_append (a b:List UInt8):sumW (a++b)=sumW a+sumW b:=by
 induction a with
 |nil=>simp[sumW]
 |cons c r ih=>simp only[List.cons_append,sumW,ih];omega
theorem sumW_bd (l:List UInt8):0≤sumW l∧sumW l≤12*l.length:=by
 induction l with
 |nil=>simp[sumW]
 |cons c r ih=>have:=gw_bd c.toNat c.toNat_lt;simp only[sumW,qC];omega
theorem sumW_pos (l:List UInt8)(h:okW l=true):4*(l.length:Int)≤sumW l:=by
 induction l with
 |nil=>simp[sumW]
 |cons c r ih=>
  unfold okW at h;rw[List.all_cons,Bool.and_eq_true] at h;have h1:=gw_pos c.toNat c.toNat_lt;have h2:gw c.toNat≠0:=bne_iff_ne.1 h.1;have:=ih h.2;simp only[sumW,qC];omega
theorem valid_iff (s:ByteArray):QbS s=decide (0<QaR s):=by
 unfold QbS QaR;have hl:s.data.toList.length=s.size:=by simp
 by_cases h1:40<s.size
 ·rw[if_pos h1];simp;intro _ h;omega
 ·rw[if_neg h1];cases ho:okW s.data.toList
  ·simp
  ·have:=sumW_pos _ ho;have h2:=sumW_bd s.data.toList;simp only[if_true,Bool.and_true];rw[hl] at this h2;rw[decide_eq_decide];omega
theorem okW_take (s:ByteArray)(k:Nat)(h:k<s.size):okW (s.data.toList.take (k+1))=(okW (s.data.toList.take k)&&(gw s[k].toNat != 0)):=by
 have e:s.data.toList.take (k+1)=s.data.toList.take k++[s[k]]:=by
  rw[qT (by simpa using h)];rfl
 unfold okW;rw[e,List.all_append];simp
theorem sumW_take (s:ByteArray)(k:Nat)(h:k<s.size):sumW (s.data.toList.take (k+1))=sumW (s.data.toList.take k)+gw s[k].toNat:=by
 have e:s.data.toList.take (k+1)=s.data.toList.take k++[s[k]]:=by
  rw[qT (by simpa using h)];rfl
 rw[e,sumW_append];simp[sumW]
theorem okW_not (s:ByteArray)(k:Nat)(h:k<s.size)(h0:gw s[k].toNat=0):okW s.data.toList=false:=by
 unfold okW;rw[List.all_eq_false];exact⟨s[k],by simp[ByteArray.getElem_eq_getElem_data],by simp[h0]⟩
theorem takeAll (s:ByteArray)(k:Nat)(h:s.size≤k):s.data.toList.take k=s.data.toList:=List.take_of_length_le (by simp;exact h)
theorem glyphWidth_any (c:Nat)(hc:c<256)(w:World)(hL:Laid w):
 Calls Tryz.prog 76 #[.int .u8 (c:Int)] w fun e w'=>e=.returned (.int .i64 (gw c))∧w=w':=by
 by_cases h1:c<33
 ·have e:=Lh (gw_lo c h1);have h1':(c:Int)<33:=(by omega);go_enter Tryz.func76,Tryz.ntmps76;go_wp2_with fail;go_ret;exact⟨Qas e.out.symm,rfl⟩
 ·by_cases h2:127≤c
  ·have e:=Lh (gw_hi c hc h2);have h1':¬(c:Int)<33:=(by omega);have h2':(127:Int)≤(c:Int):=(by omega);have h3:(c:Int)≤255:=(by omega);go_enter Tryz.func76,Tryz.ntmps76;go_wp2_with fail;go_ret;exact⟨Qas e.out.symm,rfl⟩
  ·obtain⟨d,rfl⟩:∃d,c=d+33:=⟨c-33,by omega⟩;have hc0:=hL.cell d (by omega);have hb:=gw_bd (d+33) hc;generalize gw (d+33)=g at*;have hd:d<94:=(by omega);have hd2:(d:Int)<94:=(by omega);clear h1 h2 hc;go_enter Tryz.func76,Tryz.ntmps76;go_wp2_with fail;go_ret;exact⟨rfl,rfl⟩
theorem QeX (s:ByteArray)(w:World)(hL:Laid w):
 Calls Tryz.prog 33 #[.string s] w fun e w'=>e=.returned (.int .i64 (QaR s))∧w=w':=by
 have HL:=Lh hL;clear hL;by_cases hbig:40<s.size
 ·have e:=Lh (show QaR s=0 by unfold QaR;rw[if_pos hbig]);go_enter Tryz.func33,Tryz.ntmps33;go_wp2_with fail;go_ret;exact⟨Qas e.out.symm,rfl⟩
 ·have hs:s.size≤40:=by omega
  have hs2:(s.size:Int)≤40:=(by omega);have Hw:=Lh (show QaR s=if okW s.data.toList then sumW s.data.toList else 0 by unfold QaR;rw[if_neg hbig]);clear hbig;go_enter Tryz.func33,Tryz.ntmps33;go_wp2_with fail;go_loop [3,4,5,11] (fun n _ _ i=>∃k:Nat,k≤s.size∧i=.int .i64 k∧n=.int .i64 (sumW (s.data.toList.take k))∧Hid (okW (s.data.toList.take k)=true)) (fun _ _ _ i=>s.size-(intOf i).toNat);(case atStart=>exact⟨0,Nat.zero_le _,rfl,rfl,rfl⟩);case round=>
   obtain⟨k,hk,rfl,rfl,hok⟩:=hrel;have hbd:=sumW_bd (s.data.toList.take k);have hl:(s.data.toList.take k).length≤k:=List.length_take_le _ _;by_cases hlt:k<s.size
   ·have hkl:(k:Int)<(s.size:Int):=by omega
    have hk0:(0:Int)≤(k:Int):=(by omega);have HS:=Lh (sumW_take s k hlt);have HO:=Lh (okW_take s k hlt);have HN:=Lh (okW_not s k hlt);have hg:=gw_bd s[k].toNat s[k].toNat_lt;have HG:=Lh (fun w=>glyphWidth_any s[k].toNat s[k].toNat_lt w);generalize sumW (s.data.toList.take k)=S at*;go_wp2_with fail;refine(HG.out _ HL.out).mono ?_;rintro e w' ⟨rfl,rfl⟩;by_cases h0:gw s[k].toNat=0
    ·have E:=Lh (show QaR s=0 by rw[Hw.out,HN.out h0];rfl);rw[h0];clear h0;go_wp2_with fail;go_ret;exact⟨Qas E.out.symm,rfl⟩
    ·have E:=Lh (show okW (s.data.toList.take (k+1))=true by rw[HO.out,hok.out];simp[h0]);generalize gw s[k].toNat=g at*;have hB:(g==0)=false:=beq_eq_false_iff_ne.2 h0;clear h0;go_wp2_with fail;go_round;(case rel=>exact⟨k+1,by omega,by go_num,by rw[HS.out],E.out⟩);case measure=>simp[intOf];omega
   ·have E:=Lh (show QaR s=sumW (s.data.toList.take k) by rw[Hw.out,takeAll s k (by omega)];rw[if_pos];rw[←takeAll s k (by omega)];exact hok.out);go_wp2_with fail;go_ret;exact⟨Qas E.out.symm,rfl⟩
theorem gvalid_any (s:ByteArray)(w:World)(hL:Laid w):
 Calls Tryz.prog 89 #[.string s] w fun e w'=>e=.returned (.bool (QbS s))∧w=w':=by
 have HV:=Lh (valid_iff s);go_enter Tryz.func89,Tryz.ntmps89;go_wp2_with fail;refine(QeX s _ hL).mono ?_;rintro e w' ⟨rfl,rfl⟩;generalize QaR s=q at*;go_wp2_with fail;go_ret;exact⟨Qat HV.out.symm,rfl⟩
end Go.Proofs.YtegaapiocihcpaaGreatDoor
namespace Go.Proofs.YtegaapiocihcpaaGreatDoor
open Go.Shelf
def Qey:Go.Shelf.Ren:=⟨fun|4=>129|n=>n,fun|22=>34|25=>110|3=>3|4=>4|9=>9|20=>20 |0=>0|n=>n,fun|n=>n⟩
theorem growW:Go.Proofs.Lays8.n4 Tryz.prog Qey:={
 mixed:=by kernel_rfl
 f4:=⟨Tryz.f129.name,by decide,Tryz.func129.trans (congrArg some (by kernel_rfl))⟩
 t0:=Tryz.underlying0
 a0:=Tryz.isAgg0
 z0:=Tryz.sizeOf0
 v0:=Tryz.zeroValue0
 t3:=Tryz.underlying3
 a3:=Tryz.isAgg3
 z3:=Tryz.sizeOf3
 v3:=Tryz.zeroValue3
 t4:=Tryz.underlying4
 a4:=Tryz.isAgg4
 z4:=Tryz.sizeOf4
 v4:=Tryz.zeroValue4
 t9:=Tryz.underlying9
 a9:=Tryz.isAgg9
 z9:=Tryz.sizeOf9
 v9:=Tryz.zeroValue9
 t20:=Tryz.underlying20
 a20:=Tryz.isAgg20
 z20:=Tryz.sizeOf20
 v20:=Tryz.zeroValue20
 t22:=Tryz.underlying34
 a22:=Tryz.isAgg34
 z22:=Tryz.sizeOf34
 v22:=Tryz.zeroValue34}
end Go.Proofs.YtegaapiocihcpaaGreatDoor
namespace Go.Proofs.YtegaapiocihcpaaGreatDoor
open Go.RowKit
structure Word where
 s:ByteArray
 key:ByteArray
 t:Int
 n:Int
 deriving DecidableEq
def Word.ok (x:Word):Prop:=x.s.size≤maxLen∧x.key.size≤maxLen∧I64 x.t∧I64 x.n
def Word.cells (x:Word):List Value:=[.string x.s,.string x.key,.int .i64 x.t,.int .i64 x.n]
instance:Rep Word where
 size:=4
 R _ _ cs x:=cs=x.cells∧x.ok
 len:=by rintro w S cs s ⟨rfl,_⟩;rfl
 one:=by rintro w S cs s ⟨rfl,_⟩ u hu;simp[Word.cells] at hu;rcases hu with rfl|rfl|rfl|rfl<;>rfl
 keep:=by rintro w w' S cs s h _;exact h
 mono:=by rintro w S S' cs s h _;exact h
theorem Qdt {w:World}{S:Nat→Prop}{A:Option Addr}{c:Nat}{l:List Word}(h:Sl w S A c l){k:Nat}(hk:k<l.length):
 ∃b o,A=some ⟨b,o,none⟩∧S b∧b<w.heap.size∧l[k].ok∧w.cell? ⟨b,o+k*4,none⟩=some (.string l[k].s)∧w.cell? ⟨b,o+k*4+1,none⟩=some (.string l[k].key)∧ w.cell? ⟨b,o+k*4+2,none⟩=some (.int .i64 l[k].t)∧w.cell? ⟨b,o+k*4+3,none⟩=some (.int .i64 l[k].n):=by
 obtain⟨b,o,es,rfl,hb,hlt,⟨rfl,hok⟩,hc⟩:=h.at_ hk;exact⟨b,o,rfl,hb,hlt,hok,hc 0 _ rfl,hc 1 _ rfl,hc 2 _ rfl,hc 3 _ rfl⟩
theorem Qb8 {α:Type}[Rep α]{w:World}{S:Nat→Prop}{A:Option Addr}{c:Nat}{l:List (List α)}(h:Sl w S A c l){k:Nat}(hk:k<l.length):
 ∃b o Ap cp,A=some ⟨b,o,none⟩∧S b∧b<w.heap.size∧w.cell? ⟨b,o+k,none⟩=some (.slice Ap l[k].length cp)∧Sl w S Ap cp l[k]:=by
 obtain⟨b,o,es,rfl,hb,hlt,⟨Ap,cp,rfl,hp,_⟩,hc⟩:=h.at_ hk;have:=hc 0 _ rfl;exact⟨b,o,Ap,cp,rfl,hb,hlt,by simpa[Rep.size] using this,hp⟩
theorem QeU:(Tryz.prog.info? 110).map (fun i=>(i.zero,i.size,i.bytes))=some (some (.slice none 0 0),Rep.size (List Word),24):=by kernel_rfl
theorem grow_nil (n:Nat)(w:World)(hn:n≤4194304):
 Calls Tryz.prog 129 #[.slice none 0 0,.int .i64 (n:Int)] w fun e w'=>∃v,e=.returned v∧Own w' w.heap.size 110 v ([]:List (List Word))∧Below w.heap.size w w':=by
 by_cases h0:n=0
 ·subst h0;exact(Any8.slices_Grow_room growW none 0 0 0 w (by omega) (by omega) (by omega) (by omega)).mono fun e w' ⟨he,hw⟩=>⟨_,he,Own.nil _ _ _,by rw[hw];exact Below.refl _ _⟩
 ·obtain⟨i,hi,hz,hz1,hz2⟩:=info_parts QeU;have h1:=grownCap_ge w (0+n) 0 (Qey.t 25);have h2:=grownCap_le_maxLen w (0+n) 0 (Qey.t 25) (by unfold maxLen;omega);refine(Any8.slices_Grow_grow growW i (.slice none 0 0) hi hz (by rw[hz1];decide) none 0 0 n [] w (by omega) (by omega) (by rw[hz2];omega) (by omega) (by simp) (fun _=>rfl) (fun a h=>by cases h)).mono ?_;rintro e w' ⟨he,rfl⟩;refine⟨_,he,⟨[],⟨by simp,.inr ⟨w.heap.size,_,_,rfl,Nat.le_refl _,heap_alloc_new w.drew _,by simp,h2,?_,by simp⟩⟩,by simp,fun i h=>absurd h (by simp)⟩,?_⟩
  ·have e:(Value.slice none 0 0).cells.size=1:=rfl;simp only[Array.size_append,size_zeroCells,e,Nat.mul_one];show 0+(0+n-0)+(_-(0+n))=_*1;omega
  ·exact(bR.drew).alloc nL _
def catTo {α:Type}(a b:List α):Nat→List α
 |0=>[]
 |1=>a
 |_=>a++b
theorem QdB (Q:Nat)(A B:Option Addr)(c d:Nat)(a b:List (List Word))(w:World)(h0:w.cell? ⟨Q,0,none⟩=some (.slice A a.length c))(h1:w.cell? ⟨Q,1,none⟩=some (.slice B b.length d)) (ha:Sl w (fun b=>b<w.heap.size) A c a) (hb:Sl w (fun b=>b<w.heap.size) B d b) (hla:a.length≤1048576) (hlb:b.length≤1048576):
 Calls Tryz.prog 74 #[.slice (some ⟨Q,0,none⟩) 2 2] w fun e w'=>∃v,e=.returned v∧Own w' w.heap.size 110 v (a++b)∧Below w.heap.size w w':=by
 have Ha:=Lh ha;have Hb:=Lh hb;have H0:=Lh h0;have H1:=Lh h1;have hQ:=World.block_lt_of_cell? w _ h0;clear ha hb;go_enter Tryz.func74,Tryz.ntmps74;go_wp2_with fail;go_loop [3,5,11] (fun n _ i=>∃k:Nat,k≤2∧i=.int .i64 k∧n=.int .i64 ((catTo a b k).length:Int)) (fun _ _ i=>2-(intOf i).toNat);(case atStart=>exact⟨0,by omega,rfl,rfl⟩);case round=>
  obtain⟨k,hk,rfl,rfl⟩:=hrel;rcases(show k=0∨k=1∨k=2 by omega) with rfl|rfl|rfl
  ·have e:(catTo a b 0).length=0:=rfl;rw[e];clear e;go_wp2_with fail;go_round;(case rel=>exact⟨1,by omega,rfl,by simp[catTo]⟩);case measure=>simp[intOf]
  ·have e:(catTo a b 1).length=a.length:=rfl;rw[e];clear e;go_wp2_with fail;go_round;(case rel=>exact⟨2,by omega,rfl,by simp[catTo]⟩);case measure=>simp[intOf]
  ·have e:(catTo a b 2).length=a.length+b.length:=by simp[catTo]
   rw[e];clear e h0 h1;go_wp2_with fail;refine(grow_nil (a.length+b.length) w (by omega)).mono ?_;rintro e wG ⟨v,rfl,hownG,hbG⟩;have HbG:=Lh hbG;have HoG:=Lh hownG;clear hbG hownG;go_wp2_with fail;go_loopw [6,8,27] (fun v _ i wr=>∃k:Nat,k≤2∧i=.int .i64 k∧Own wr w.heap.size 110 v (catTo a b k)∧Below w.heap.size w wr) (fun _ _ i _=>2-(intOf i).toNat);(case atStart=>exact⟨0,by omega,rfl,HoG.out,HbG.out⟩);case round=>
    obtain⟨k,hk,rfl,hown,hb3⟩:=hrel;rcases(show k=0∨k=1∨k=2 by omega) with rfl|rfl|rfl
    ·have hown:Own wr w.heap.size 110 _ ([]:List (List Word)):=hown;obtain⟨A2,c2,rfl,_⟩:=hown.sl;have hc:=(hb3.cell (p:=⟨Q,0,none⟩) hQ).trans H0.out;have hz3:=hb3.size;go_wp2_with (at_builtin;refine QaC (α:=List Word) _ rfl (.tmp 31) (.tmp 32) 34 rfl w.heap.size 110 (.slice none 0 0) 24 Tryz.underlying34 QeU rfl (by decide) _ [] rfl hown A c a.length a rfl rfl (fun b=>b<w.heap.size) (Ha.out.keep (Kept.all hb3) hz3) (by intro i (hi:i<w.heap.size) _ e;have:=(hown.lt i e.symm).1;omega) (by first|omega|(simp;done)|(simp;omega)) (by first|omega|(simp;done)|(simp;omega)) (by first|omega|(simp;done)|(simp;omega)) ?_;intro v2 w2 hown2 hg2 hat2);go_roundw;(case rel=>exact⟨1,by omega,rfl,by rw[List.nil_append] at hown2;exact hown2,QaL hb3 hown hz3 hg2⟩);case measure=>simp[intOf]
    ·have hown:Own wr w.heap.size 110 _ (a:List (List Word)):=hown;obtain⟨A2,c2,rfl,_⟩:=hown.sl;have hc:=(hb3.cell (p:=⟨Q,1,none⟩) hQ).trans H1.out;have hz3:=hb3.size;go_wp2_with (at_builtin;refine QaC (α:=List Word) _ rfl (.tmp 31) (.tmp 32) 34 rfl w.heap.size 110 (.slice none 0 0) 24 Tryz.underlying34 QeU rfl (by decide) _ a rfl hown B d b.length b rfl rfl (fun b=>b<w.heap.size) (Hb.out.keep (Kept.all hb3) hz3) (by intro i (hi:i<w.heap.size) _ e;have:=(hown.lt i e.symm).1;omega) (by first|omega|(simp;done)|(simp;omega)) (by first|omega|(simp;done)|(simp;omega)) (by first|omega|(simp;done)|(simp;omega)) ?_;intro v2 w2 hown2 hg2 hat2);go_roundw;(case rel=>exact⟨2,by omega,rfl,hown2,QaL hb3 hown hz3 hg2⟩);case measure=>simp[intOf]
    ·go_wp2_with fail;go_ret;exact⟨_,rfl,hown,hb3⟩
structure Raw where
 v:Value
 one:v.oneCell'=true
instance:Rep Raw where
 size:=1
 R _ _ cs x:=cs=[x.v]
 len:=by rintro w S cs s rfl;rfl
 one:=by rintro w S cs s rfl u hu;simp at hu;subst hu;exact s.one
 keep:=by rintro w w' S cs s h _;exact h
 mono:=by rintro w S S' cs s h _;exact h
class Flat (α:Type) [Rep α]:Prop where
 flat:∀{w w':World} {S S':Nat→Prop} {cs:List Value} {a:α},Rep.R w S cs a→Rep.R w' S' cs a
instance:Flat Raw:=⟨fun h=>h⟩
instance:Flat Word:=⟨fun h=>h⟩
theorem Own.at_blocks {α:Type}[Rep α][Flat α]{w w':World}{base:Nat}{e:TypeId}{v:Value}{l:List α}(h:Own w base e v l)(hk:∀g,g<w.heap.size→v.ownBlock=some g→w'.heap[g]? =w.heap[g]?):Own w' base e v l:=by
 obtain⟨xs,hx,ho,hr⟩:=h;refine⟨xs,⟨hx.1,?_⟩,ho,fun i hi=>Flat.flat (hr i hi)⟩;rcases hx.2 with hn|⟨g,cap,cur,hv,hb,hg,rest⟩
 ·exact .inl hn
 ·exact .inr ⟨g,cap,cur,hv,hb,(hk g (Array.getElem?_eq_some_iff.1 hg).1 (by rw[hv];rfl)).trans hg,rest⟩
structure Nest (w:World)(B:Nat→Prop)(te ti:TypeId)(v:Value)(us:List Raw)(ls:List (List Word)):Prop where
 own:Own w 0 te v us
 len:us.length=ls.length
 inn:∀i (h:i<us.length) (h':i<ls.length),Own w 0 ti us[i].v ls[i]
 mv:∀g,v.ownBlock=some g→B g
 mi:∀i (h:i<us.length) g,us[i].v.ownBlock=some g→B g
 ne:∀i (h:i<us.length) g,us[i].v.ownBlock=some g→v.ownBlock≠some g
 dis:∀i j (hi:i<us.length) (hj:j<us.length) g,i≠j→us[i].v.ownBlock=some g→us[j].v.ownBlock≠some g
section
variable {w w':World} {B B':Nat→Prop} {te ti:TypeId} {v v':Value} {us:List Raw} {ls:List (List Word)}
theorem Nest.nil (w:World)(B:Nat→Prop)(te ti:TypeId):Nest w B te ti (.slice none 0 0) [] []:=
 ⟨Own.nil _ _ _,rfl,fun i h=>absurd h (by simp),fun g h=>(by cases h),fun i h=>absurd h (by simp),fun i h=>absurd h (by simp),fun i j h=>absurd h (by simp)⟩
theorem Nest.kept (h:Nest w B te ti v us ls)(hk:∀g,g<w.heap.size→B g→w'.heap[g]? =w.heap[g]?):Nest w' B te ti v us ls:=
 ⟨h.own.at_blocks fun g hl hg=>hk g hl (h.mv g hg),h.len,fun i hi hi'=>(h.inn i hi hi').at_blocks fun g hl hg=>hk g hl (h.mi i hi g hg),h.mv,h.mi,h.ne,h.dis⟩
theorem Nest.below (h:Nest w B te ti v us ls)(hb:Below w.heap.size w w'):Nest w' B te ti v us ls:=h.kept fun g hl _=>hb.block g hl
theorem Nest.mono (h:Nest w B te ti v us ls)(hB:∀g,g<w.heap.size→B g→B' g):Nest w B' te ti v us ls:=
 ⟨h.own,h.len,h.inn,fun g hg=>hB g (h.own.lt g hg).2 (h.mv g hg),fun i hi g hg=>hB g ((h.inn i hi (h.len▸hi)).lt g hg).2 (h.mi i hi g hg),h.ne,h.dis⟩
theorem Nest.push {u:Raw}{l:List Word}{H:Nat}(h:Nest w B te ti v us ls)(hl:Own w 0 ti u.v l)(hu:∀g,u.v.ownBlock=some g→¬B g∧B' g) (hk:∀b,b<w.heap.size→some b≠v.ownBlock→w'.heap[b]? =w.heap[b]?) (hown:Own w' 0 te v' (us++[u])) (hat:v'.ownBlock=v.ownBlock∨v'.ownBlock=some H) (hH:w.heap.size≤H) (hB:∀g,B g→B' g) (hBH:B' H):Nest w' B' te ti v' (us++[u]) (ls++[l]):=by
 have hne:∀g,u.v.ownBlock=some g→v.ownBlock≠some g:=fun g hg e=>(hu g hg).1 (h.mv g e)
 have hlt:∀i (hi:i<us.length) g,us[i].v.ownBlock=some g→g<w.heap.size:=fun i hi g hg=>((h.inn i hi (h.len▸hi)).lt g hg).2
 have hlu:∀g,u.v.ownBlock=some g→g<w.heap.size:=fun g hg=>(hl.lt g hg).2
 have hv':∀g,g<w.heap.size→v.ownBlock≠some g→v'.ownBlock≠some g:=fun g hg hn=>by
  rcases hat with e|e
  ·rw[e];exact hn
  ·rw[e];intro e2;injection e2 with e2;omega
 have keep:∀{x:Value} {m:List Word},Own w 0 ti x m→(∀g,x.ownBlock=some g→v.ownBlock≠some g)→Own w' 0 ti x m:=fun ho hn=>ho.at_blocks fun g hg hx=>hk g hg fun e=>hn g hx e.symm
 refine⟨hown,by simp[h.len],fun i hi hi'=>?_,fun g hg=>?_,fun i hi g hg=>?_,fun i hi g hg=>?_,fun i j hi hj g hij hg=>?_⟩
 ·by_cases hlt':i<us.length
  ·rw[List.getElem_append_left hlt',List.getElem_append_left (h.len▸hlt')];exact keep (h.inn i hlt' (h.len▸hlt')) (h.ne i hlt')
  ·obtain rfl:i=us.length:=by simp at hi;omega
   have e1:(us++[u])[us.length]=u:=(by simp);have e2:(ls++[l])[us.length]=l:=(by simp[h.len]);rw[e1,e2];exact keep hl hne
 ·rcases hat with e|e
  ·exact hB g (h.mv g (e▸hg))
  ·rw[e] at hg;injection hg with hg;exact hg▸hBH
 ·by_cases hlt':i<us.length
  ·rw[List.getElem_append_left hlt'] at hg;exact hB g (h.mi i hlt' g hg)
  ·obtain rfl:i=us.length:=by simp at hi;omega
   rw[show(us++[u])[us.length]=u by simp] at hg;exact(hu g hg).2
 ·by_cases hlt':i<us.length
  ·rw[List.getElem_append_left hlt'] at hg;exact hv' g (hlt i hlt' g hg) (h.ne i hlt' g hg)
  ·obtain rfl:i=us.length:=by simp at hi;omega
   rw[show(us++[u])[us.length]=u by simp] at hg;exact hv' g (hlu g hg) (hne g hg)
 ·by_cases hli:i<us.length
  ·rw[List.getElem_append_left hli] at hg;by_cases hlj:j<us.length
   ·rw[List.getElem_append_left hlj];exact h.dis i j hli hlj g hij hg
   ·obtain rfl:j=us.length:=by simp at hj;omega
    rw[show(us++[u])[us.length]=u by simp];intro e;exact(hu g e).1 (h.mi i hli g hg)
  ·obtain rfl:i=us.length:=by simp at hi;omega
   rw[show(us++[u])[us.length]=u by simp] at hg;have hlj:j<us.length:=(by simp at hj;omega);rw[List.getElem_append_left hlj];intro e;exact(hu g hg).1 (h.mi j hlj g e)
theorem Nest.inner (h:Nest w B te ti v us ls)(i:Nat)(hi:i<us.length){l:List Word}(hk:∀b,b<w.heap.size→some b≠us[i].v.ownBlock→w'.heap[b]? =w.heap[b]?)(hown:Own w' 0 ti us[i].v l):Nest w' B te ti v us (ls.set i l):=by
 refine⟨h.own.at_blocks fun g hl hg=>hk g hl fun e=>h.ne i hi g e.symm hg,by rw[List.length_set];exact h.len,fun j hj hj'=>?_,h.mv,h.mi,h.ne,h.dis⟩;by_cases hij:i=j
 ·subst hij;rw[List.getElem_set_self];exact hown
 ·rw[List.getElem_set_ne hij];rw[List.length_set] at hj';exact(h.inn j hj hj').at_blocks fun g hl hg=>hk g hl fun e=>h.dis i j hi hj g hij e.symm hg
theorem Nest.sl (h:Nest w B te ti v us ls)(hlen:∀l∈ls,l.length<9223372036854775808):∃A c,v=.slice A ls.length c∧Sl w (fun b=>b<w.heap.size) A c ls:=by
 obtain⟨A,c,rfl,hs⟩:=h.own.sl;refine⟨A,c,by rw[h.len],by rw[←h.len];exact hs.1,hs.2.1,fun hn=>?_⟩;obtain⟨b,o,rfl,hb,hlt,hx⟩:=hs.2.2 (by rw[h.len];exact hn);refine⟨b,o,rfl,hb,hlt,fun i hi=>?_⟩;have hi':i<us.length:=by rw[h.len];exact hi
 obtain⟨es,hr,hc⟩:=hx i hi';obtain⟨A1,c1,e1,hs1⟩:=(h.inn i hi' hi).sl;have hr':es=[us[i].v]:=hr;exact⟨es,⟨A1,c1,by rw[hr',e1],hs1,hlen _ (List.getElem_mem hi)⟩,hc⟩
theorem Nest.at_ (h:Nest w B te ti v us ls){k:Nat}(hk:k<ls.length):
 ∃g cap,∃hu:k<us.length,v=.slice (some ⟨g,0,none⟩) ls.length cap∧g<w.heap.size∧B g∧ls.length≤cap∧w.cell? ⟨g,k,none⟩=some us[k].v∧(∀o,w.frozen? ⟨g,o,none⟩=false):=by
 have hu:k<us.length:=by rw[h.len];exact hk
 obtain⟨g,cap,es,e,_,hlt,hc,hr,hcell,hfz⟩:=h.own.at_ hu;have hr':es=[us[k].v]:=hr;subst hr';have:=hcell 0 _ rfl;simp only[Rep.size,Nat.mul_one,Nat.add_zero] at this;refine⟨g,cap,hu,by rw[←h.len];exact e,hlt,h.mv g (by rw[e];rfl),by rw[←h.len];exact hc,this,hfz⟩
end
theorem Qac (w:World)(Y o:Nat)(u:Value){g:Nat}(h:g≠Y):(w.setCell ⟨Y,o,none⟩ u).heap[g]? =w.heap[g]? :=by
 simp only[World.setCell,Array.getElem?_modify];rw[if_neg (fun e=>h e.symm)]
theorem QcN (w:World)(Y o:Nat)(u:Value){cs:Array Value}{t:TypeId}{fr:Nat × Nat}(h:w.heap[Y]? =some (.cells cs t fr)):(w.setCell ⟨Y,o,none⟩ u).heap[Y]? =some (.cells (cs.setIfInBounds o u) t fr):=by
 simp only[World.setCell,Array.getElem?_modify,if_true,h,Option.map_some,Option.isSome_none,Bool.false_eq_true,if_false]
structure TBox (w:World)(Y:Nat)(a b:Value):Prop where
 at_:w.heap[Y]? =some (.cells #[a,b] 36 (0,0))
section
variable {w w':World} {Y:Nat} {a b:Value}
theorem TBox.c0 (h:TBox w Y a b):w.cell? ⟨Y,0,none⟩=some a:=cell_of_row w _ 0 _ _ _ h.at_
theorem TBox.c1 (h:TBox w Y a b):w.cell? ⟨Y,1,none⟩=some b:=cell_of_row w _ 1 _ _ _ h.at_
theorem TBox.fz (h:TBox w Y a b)(o:Nat):w.frozen? ⟨Y,o,none⟩=false:=by simp[World.frozen?,h.at_]
theorem TBox.lt (h:TBox w Y a b):Y<w.heap.size:=(Array.getElem?_eq_some_iff.1 h.at_).1
theorem TBox.kept (h:TBox w Y a b)(hk:w'.heap[Y]? =w.heap[Y]?):TBox w' Y a b:=⟨hk.trans h.at_⟩
theorem TBox.below (h:TBox w Y a b)(hb:Below w.heap.size w w'):TBox w' Y a b:=h.kept (hb.block Y h.lt)
theorem TBox.set0 (h:TBox w Y a b)(u:Value):TBox (w.setCell ⟨Y,0,none⟩ u) Y u b:=⟨QcN w Y 0 u h.at_⟩
theorem TBox.set1 (h:TBox w Y a b)(u:Value):TBox (w.setCell ⟨Y,1,none⟩ u) Y a u:=⟨QcN w Y 1 u h.at_⟩
theorem TBox.other (h:TBox w Y a b){X o:Nat}(hX:Y≠X)(u:Value):TBox (w.setCell ⟨X,o,none⟩ u) Y a b:=h.kept (Qac w X o u hX)
end
instance:Rep Int where
 size:=1
 R _ _ cs n:=cs=[.int .i64 n]∧I64 n
 len:=by rintro w S cs s ⟨rfl,_⟩;rfl
 one:=by rintro w S cs s ⟨rfl,_⟩ u hu;simp at hu;rcases hu with rfl;rfl
 keep:=by rintro w w' S cs s h _;exact h
 mono:=by rintro w S S' cs s h _;exact h
theorem Qcf {w:World}{S:Nat→Prop}{A:Option Addr}{c:Nat}{l:List Int}(h:Sl w S A c l){k:Nat}(hk:k<l.length):
 ∃b o,A=some ⟨b,o,none⟩∧S b∧b<w.heap.size∧I64 l[k]∧w.cell? ⟨b,o+k,none⟩=some (.int .i64 l[k]):=by
 obtain⟨b,o,es,rfl,hb,hlt,⟨rfl,hok⟩,hc⟩:=h.at_ hk;have:=hc 0 _ rfl;exact⟨b,o,rfl,hb,hlt,hok,by simpa[Rep.size] using this⟩
section
variable {P:Program} {ops:Array Oper} {Q:Exit→Act→World→Prop} {md:Region.Mode} {S:World→Prop} {hd:Nat→Bool}
def wpAnyD (P:Program)(md:Region.Mode)(ops:Array Oper)(Q:Exit→Act→World→Prop)(S:World→Prop)(hd:Nat→Bool):Nat→Array Bool→Act→World→Prop
 |0,listed,a,w=>Region.ready md ops listed=[]∧Q .normal a w
 |fuel+1,listed,a,w=>
  (Region.ready md ops listed=[]→Q .normal a w)∧
  ∀i∈Region.ready md ops listed,wpOp P ops Q i (fun a' w'=>(hd i=true→S w')∧wpAnyD P md ops Q S hd fuel (listed.setIfInBounds i true) a' w') a w
theorem wpAny_of_D:∀(fuel:Nat) (listed:Array Bool) (a:Act) (w:World),wpAnyD P md ops Q S hd fuel listed a w→wpAny P md ops Q fuel listed a w
 |0,_,_,_,h=>h
 |fuel+1,_,_,_,h=>⟨h.1,fun i hi=>wpOp_mono (fun a' w' h'=>wpAny_of_D fuel _ a' w' h'.2) (h.2 i hi)⟩
theorem wpAnyD_first {i:Nat}{oi:Oper}{v:Value}(hi:ops[i]? =some oi)(hsel:∀(j:Nat) (o:Oper) cs b,ops[j]? =some o→o.op≠.select cs b) (hcov:∀(j:Nat) (oj:Oper),ops[j]? =some oj→j≠i→hd j=false→∃e∈oj.after,Region.binds md e=true∧e.on=i) (hQ:∀c a w,Q (.panic c) (a.put oi.dst v) w→Q (.panic c) a w):
 ∀(fuel:Nat) (listed:Array Bool) (a:Act) (w:World),(∀j oj,ops[j]? =some oj→j≠i→listed.getD j true=false→(∀e∈oj.after,Region.binds md e=true→e.on≠i)→oi.apart ops oj=true)→ i∈Region.ready md ops listed→YieldsIf P ops S oi v a→S w→ wpAnyD P md ops Q S hd fuel (listed.setIfInBounds i true) (a.put oi.dst v) w→wpAnyD P md ops Q S hd (fuel+1) listed a w:=by
 intro fuel;induction fuel with
 |zero=>
  intro listed a w _ hr hy hS H;refine⟨fun h=>(by rw[h] at hr;cases hr),fun j hj=>?_⟩;by_cases hji:j=i
  ·subst hji;exact hy.wpOp hi hS ⟨fun _=>hS,H⟩
  ·have:=ready_mono hj hji;rw[H.1] at this;cases this
 |succ fuel ih=>
  intro listed a w hfree hr hy hS H;refine⟨fun h=>(by rw[h] at hr;cases hr),fun j hj=>?_⟩;by_cases hji:j=i
  ·subst hji;exact hy.wpOp hi hS ⟨fun _=>hS,H⟩
  ·have h1:=H.2 j (ready_mono hj hji);obtain⟨hjun,oj,hoj,hall⟩:=mem_ready.1 hj
   have hnot:∀e∈oj.after,Region.binds md e=true→e.on≠i:=fun e he hb heq=>by
    have h1:=hall e he hb;have h0:=(mem_ready.1 hr).1;rw[heq] at h1;rcases Nat.lt_or_ge i listed.size with h'|h'
    ·simp[h'] at h0 h1;rw[h0] at h1;cases h1
    ·simp[Array.getElem?_eq_none h'] at h1
   have hhd:hd j=true:=by
    cases hh:hd j with
    |true=>rfl
    |false=>
     obtain⟨e,he,hb,heq⟩:=hcov j oj hoj hji hh;exact absurd heq (hnot e he hb)
   have h2:=wpOp_putIf hoj (hfree j oj hoj hji hjun hnot) (fun cs b=>hsel i oi cs b hi) (fun cs b=>hsel j oj cs b hoj) hQ hy h1;have hfree':∀k ok,ops[k]? =some ok→k≠i→(listed.setIfInBounds j true).getD k true=false→ (∀e∈ok.after,Region.binds md e=true→e.on≠i)→oi.apart ops ok=true:=fun k ok hk hki hun hno=>by
    refine hfree k ok hk hki ?_ hno;by_cases hjk:j=k
    ·subst hjk;exact hjun
    ·rw[Go.getD_set_ne true hjk] at hun;exact hun
   refine wpOp_mono (fun a' w' h3=>⟨fun _=>h3.2.1 hhd,ih (listed.setIfInBounds j true) a' w' hfree' (ready_mono hr (Ne.symm hji)) h3.1 (h3.2.1 hhd) ?_⟩) h2;rw[Array.setIfInBounds_comm _ _ hji];exact h3.2.2
def covers (md:Region.Mode)(ops:Array Oper)(hd:Nat→Bool)(i:Nat):Bool:=
 (List.range ops.size).all fun j=>j==i||hd j||((ops[j]?).map fun o=>o.after.any fun e=>Region.binds md e&&e.on==i).getD false
theorem covers_spec {i:Nat}(h:covers md ops hd i=true):∀(j:Nat) (oj:Oper),ops[j]? =some oj→j≠i→hd j=false→∃e∈oj.after,Region.binds md e=true∧e.on=i:=by
 intro j oj hj hji hh;have hlt:j<ops.size:=(Array.getElem?_eq_some_iff.1 hj).1;have:=(List.all_eq_true.1 h) j (List.mem_range.2 hlt);rw[hj,hh] at this;simp only[Option.map_some,Option.getD_some,Bool.or_false,Bool.or_eq_true,beq_iff_eq,Array.any_eq_true'] at this;rcases this with h|⟨e,he,h⟩
 ·exact absurd h hji
 ·rw[Bool.and_eq_true,beq_iff_eq] at h;exact⟨e,he,h.1,h.2⟩
theorem QeB {i:Nat}{oi:Oper}{v:Value}{fuel:Nat}{listed:Array Bool}{a:Act}{w:World}(hi:ops[i]? =some oi) (hs:Region.noSelect ops=true) (hc:covers md ops hd i=true) (hf:Region.free md ops listed i=true) (hr:(Region.ready md ops listed).contains i=true) (hQ:∀c a w,Q (.panic c) (a.put oi.dst v) w→Q (.panic c) a w) (hw:Region.wanted oi (yielded ops a.tmps)=true) (hy:∀w,S w→(execOp a.eval oi).run P w=.ok (.value v) w) (hS:S w) (h:wpAnyD P md ops Q S hd fuel (listed.setIfInBounds i true) (a.put oi.dst v) w):wpAnyD P md ops Q S hd (fuel+1) listed a w:=
 wpAnyD_first hi (Region.noSelect_spec hs) (covers_spec hc) hQ fuel listed a w (Region.free_spec hi hf) (by simpa using hr) (Or.inl ⟨hw,hy⟩) hS h
theorem wpAnyD_one {i:Nat}{oi:Oper}{fuel:Nat}{listed:Array Bool}{a:Act}{w:World}(hi:ops[i]? =some oi)(hr:Region.ready md ops listed=[i])(hw:Region.wanted oi (yielded ops a.tmps)=true) (h:∀K:Act→World→Prop,(∀a' w',(hd i=true→S w')→wpAnyD P md ops Q S hd fuel (listed.setIfInBounds i true) a' w'→K a' w')→oi.wp P a w K Q):wpAnyD P md ops Q S hd (fuel+1) listed a w:=by
 refine⟨fun h0=>(by rw[hr] at h0;cases h0),fun j hj=>?_⟩;rw[hr,List.mem_singleton] at hj;subst hj;unfold wpOp;simp only[hi,hw,if_true];exact .inl (h _ fun a' w' hs hn=>⟨hs,hn⟩)
theorem QaW {i j:Nat}{oi oj:Oper}{fuel:Nat}{listed:Array Bool}{a:Act}{w:World}(hr:Region.ready md ops listed=[i,j])(hi:ops[i]? =some oi)(hj:ops[j]? =some oj)(hwi:Region.wanted oi (yielded ops a.tmps)=true)(hwj:Region.wanted oj (yielded ops a.tmps)=true) (h1:∀K:Act→World→Prop,(∀a' w',(hd i=true→S w')→wpAnyD P md ops Q S hd fuel (listed.setIfInBounds i true) a' w'→K a' w')→oi.wp P a w K Q) (h2:∀K:Act→World→Prop,(∀a' w',(hd j=true→S w')→wpAnyD P md ops Q S hd fuel (listed.setIfInBounds j true) a' w'→K a' w')→oj.wp P a w K Q):wpAnyD P md ops Q S hd (fuel+1) listed a w:=by
 refine⟨fun h0=>(by rw[hr] at h0;cases h0),fun k hk=>?_⟩;rw[hr] at hk;rcases List.mem_cons.1 hk with rfl|hk
 ·unfold wpOp;simp only[hi,hwi,if_true];exact .inl (h1 _ fun a' w' hs hn=>⟨hs,hn⟩)
 ·rw[List.mem_singleton] at hk;subst hk;unfold wpOp;simp only[hj,hwj,if_true];exact .inl (h2 _ fun a' w' hs hn=>⟨hs,hn⟩)
theorem Qae {listed:Array Bool}{a:Act}{w:World}(hr:Region.ready md ops listed=[])(h:Q .normal a w):∀fuel,wpAnyD P md ops Q S hd fuel listed a w
 |0=>⟨hr,h⟩
 |_+1=>⟨fun _=>h,by rw[hr];simp⟩
theorem Qaj (S:World→Prop)(hd:Nat→Bool){id:Nat}{a:Act}{w:World}(hm:P.follows .mixedOrders=true) (h:wpAnyD P .any ops Q S hd ops.size (Array.replicate ops.size false) a w.drew):(Code.region id ops true).wp P Q a w:=
 wp_region_any hm (wpAny_of_D _ _ _ _ h)
theorem tD (i:Nat)(oi:Oper){fuel:Nat}{listed:Array Bool}{a:Act}{w:World}(hi:ops[i]? =some oi) (h:∀K:Act→World→Prop,(∀a' w',(hd i=true→S w')→wpAnyD P md ops Q S hd fuel (listed.setIfInBounds i true) a' w'→K a' w')→oi.wp P a w K Q) (hr:Region.ready md ops listed=[i]:=by kernel_rfl) (hw:Region.wanted oi (yielded ops a.tmps)=true:=by rfl):wpAnyD P md ops Q S hd (fuel+1) listed a w:=wpAnyD_one hi hr hw h
end
section
variable {P:Program} {ops:Array Oper} {Q:Exit→Act→World→Prop} {md:Region.Mode} {S:World→Prop} {hd:Nat→Bool}
def Qbh (md:Region.Mode)(ops:Array Oper)(i:Nat):Nat→Nat→Bool
 |0,_=>false
 |f+1,j=>((ops[j]?).map fun o=>o.after.any fun e=>Region.binds md e&&(e.on==i||Qbh md ops i f e.on)).getD false
def Closed (md:Region.Mode)(ops:Array Oper)(listed:Array Bool):Prop:=∀j oj,ops[j]? =some oj→listed.getD j false=true→∀e∈oj.after,Region.binds md e=true→listed.getD e.on false=true
theorem QcX {j:Nat}{listed:Array Bool}(h:j∈Region.ready md ops listed):∃oj,ops[j]? =some oj∧∀e∈oj.after,Region.binds md e=true→listed.getD e.on false=true:=by
 obtain⟨_,oj,hoj,hall⟩:=mem_ready.1 h;exact⟨oj,hoj,fun e he hb=>by simpa using hall e he hb⟩
theorem Qby {i:Nat}{listed:Array Bool}(hcl:Closed md ops listed):∀(f j:Nat),Qbh md ops i f j=true→(∃oj,ops[j]? =some oj∧∀e∈oj.after,Region.binds md e=true→listed.getD e.on false=true)→listed.getD i false=true
 |0,_,h,_=>by simp[Qbh] at h
 |f+1,j,h,⟨oj,hoj,hall⟩=>by
  rw[Qbh,hoj] at h;simp only[Option.map_some,Option.getD_some,Array.any_eq_true'] at h;obtain⟨e,he,h⟩:=h;rw[Bool.and_eq_true,Bool.or_eq_true,beq_iff_eq] at h;have hl:=hall e he h.1;rcases h.2 with h2|h2
  ·rw[←h2];exact hl
  ·have hlt:∃ok,ops[e.on]? =some ok:=by
    match f,h2 with
    |f+1,h2=>
     rw[Qbh] at h2;cases ho:ops[e.on]? with
     |none=>rw[ho] at h2;simp at h2
     |some ok=>exact⟨ok,rfl⟩
   obtain⟨ok,hok⟩:=hlt;exact Qby hcl f e.on h2 ⟨ok,hok,hcl e.on ok hok hl⟩
theorem Closed.set {listed:Array Bool}(h:Closed md ops listed){j:Nat}(hj:j∈Region.ready md ops listed):Closed md ops (listed.setIfInBounds j true):=by
 intro k ok hok hl e he hb;by_cases hkj:j=k
 ·subst hkj;obtain⟨oj,hoj,hall⟩:=QcX hj;rw[hok] at hoj;cases hoj;exact Go.getD_set_true (hall e he hb)
 ·rw[Go.getD_set_ne false hkj] at hl;exact Go.getD_set_true (h k ok hok hl e he hb)
theorem wpAnyE_first {i:Nat}{oi:Oper}{v:Value}(hi:ops[i]? =some oi)(hsel:∀(j:Nat) (o:Oper) cs b,ops[j]? =some o→o.op≠.select cs b) (hcov:∀(j:Nat) (oj:Oper),ops[j]? =some oj→j≠i→hd j=false→∃f,Qbh md ops i f j=true) (hQ:∀c a w,Q (.panic c) (a.put oi.dst v) w→Q (.panic c) a w):
 ∀(fuel:Nat) (listed:Array Bool) (a:Act) (w:World),Closed md ops listed→ (∀j oj,ops[j]? =some oj→j≠i→listed.getD j true=false→(∀e∈oj.after,Region.binds md e=true→e.on≠i)→oi.apart ops oj=true)→ i∈Region.ready md ops listed→YieldsIf P ops S oi v a→S w→ wpAnyD P md ops Q S hd fuel (listed.setIfInBounds i true) (a.put oi.dst v) w→wpAnyD P md ops Q S hd (fuel+1) listed a w:=by
 intro fuel;induction fuel with
 |zero=>
  intro listed a w _ _ hr hy hS H;refine⟨fun h=>(by rw[h] at hr;cases hr),fun j hj=>?_⟩;by_cases hji:j=i
  ·subst hji;exact hy.wpOp hi hS ⟨fun _=>hS,H⟩
  ·have:=ready_mono hj hji;rw[H.1] at this;cases this
 |succ fuel ih=>
  intro listed a w hcl hfree hr hy hS H;refine⟨fun h=>(by rw[h] at hr;cases hr),fun j hj=>?_⟩;by_cases hji:j=i
  ·subst hji;exact hy.wpOp hi hS ⟨fun _=>hS,H⟩
  ·have h1:=H.2 j (ready_mono hj hji);obtain⟨hjun,oj,hoj,hall⟩:=mem_ready.1 hj
   have hnot:∀e∈oj.after,Region.binds md e=true→e.on≠i:=fun e he hb heq=>by
    have h1:=hall e he hb;have h0:=(mem_ready.1 hr).1;rw[heq] at h1;rcases Nat.lt_or_ge i listed.size with h'|h'
    ·simp[h'] at h0 h1;rw[h0] at h1;cases h1
    ·simp[Array.getElem?_eq_none h'] at h1
   have hhd:hd j=true:=by
    cases hh:hd j with
    |true=>rfl
    |false=>
     obtain⟨f,hf⟩:=hcov j oj hoj hji hh;have hl:=Qby hcl f j hf (QcX hj);have h0:=(mem_ready.1 hr).1;rcases Nat.lt_or_ge i listed.size with h'|h'
     ·simp[h'] at h0 hl;rw[h0] at hl;cases hl
     ·simp[Array.getElem?_eq_none h'] at hl
   have h2:=wpOp_putIf hoj (hfree j oj hoj hji hjun hnot) (fun cs b=>hsel i oi cs b hi) (fun cs b=>hsel j oj cs b hoj) hQ hy h1;have hfree':∀k ok,ops[k]? =some ok→k≠i→(listed.setIfInBounds j true).getD k true=false→ (∀e∈ok.after,Region.binds md e=true→e.on≠i)→oi.apart ops ok=true:=fun k ok hk hki hun hno=>by
    refine hfree k ok hk hki ?_ hno;by_cases hjk:j=k
    ·subst hjk;exact hjun
    ·rw[Go.getD_set_ne true hjk] at hun;exact hun
   refine wpOp_mono (fun a' w' h3=>⟨fun _=>h3.2.1 hhd,ih (listed.setIfInBounds j true) a' w' (hcl.set hj) hfree' (ready_mono hr (Ne.symm hji)) h3.1 (h3.2.1 hhd) ?_⟩) h2;rw[Array.setIfInBounds_comm _ _ hji];exact h3.2.2
def coversE (md:Region.Mode)(ops:Array Oper)(hd:Nat→Bool)(i:Nat):Bool:=
 (List.range ops.size).all fun j=>j==i||hd j||Qbh md ops i ops.size j
theorem coversE_spec {i:Nat}(h:coversE md ops hd i=true):∀(j:Nat) (oj:Oper),ops[j]? =some oj→j≠i→hd j=false→∃f,Qbh md ops i f j=true:=by
 intro j oj hj hji hh;have hlt:j<ops.size:=(Array.getElem?_eq_some_iff.1 hj).1;have:=(List.all_eq_true.1 h) j (List.mem_range.2 hlt);rw[hh] at this;simp only[Bool.or_false,Bool.or_eq_true,beq_iff_eq] at this;rcases this with h|h
 ·exact absurd h hji
 ·exact⟨_,h⟩
def Qe1 (md:Region.Mode)(ops:Array Oper)(listed:Array Bool):Bool:=
 (List.range ops.size).all fun j=> !(listed.getD j false)||((ops[j]?).map fun o=>o.after.all fun e=> !(Region.binds md e)||listed.getD e.on false).getD true
theorem QdI {listed:Array Bool}(h:Qe1 md ops listed=true):Closed md ops listed:=by
 intro j oj hj hl e he hb;have hlt:j<ops.size:=(Array.getElem?_eq_some_iff.1 hj).1;have:=(List.all_eq_true.1 h) j (List.mem_range.2 hlt);rw[hj,hl] at this;simp only[Option.map_some,Option.getD_some,Bool.not_true,Bool.false_or,Array.all_eq_true_iff_forall_mem] at this;have h2:=this e he;rw[hb] at h2;simpa using h2
theorem Qaa {i:Nat}{oi:Oper}{v:Value}{fuel:Nat}{listed:Array Bool}{a:Act}{w:World}(hi:ops[i]? =some oi) (hs:Region.noSelect ops=true) (hc:coversE md ops hd i=true) (hcl:Qe1 md ops listed=true) (hf:Region.free md ops listed i=true) (hr:(Region.ready md ops listed).contains i=true) (hQ:∀c a w,Q (.panic c) (a.put oi.dst v) w→Q (.panic c) a w) (hw:Region.wanted oi (yielded ops a.tmps)=true) (hy:∀w,S w→(execOp a.eval oi).run P w=.ok (.value v) w) (hS:S w) (h:wpAnyD P md ops Q S hd fuel (listed.setIfInBounds i true) (a.put oi.dst v) w):wpAnyD P md ops Q S hd (fuel+1) listed a w:=
 wpAnyE_first hi (Region.noSelect_spec hs) (coversE_spec hc) hQ fuel listed a w (QdI hcl) (Region.free_spec hi hf) (by simpa using hr) (Or.inl ⟨hw,hy⟩) hS h
theorem tE (i:Nat)(oi:Oper)(v:Value){fuel:Nat}{listed:Array Bool}{a:Act}{w:World}(hi:ops[i]? =some oi)(hy:∀w,S w→(execOp a.eval oi).run P w=.ok (.value v) w)(hS:S w) (h:wpAnyD P md ops Q S hd fuel (listed.setIfInBounds i true) (a.put oi.dst v) w) (hb:(Region.noSelect ops&&coversE md ops hd i&&Qe1 md ops listed&&Region.free md ops listed i&&(Region.ready md ops listed).contains i)=true:=by kernel_rfl) (hw:Region.wanted oi (yielded ops a.tmps)=true:=by rfl) (hQ:∀c a w,Q (.panic c) (a.put oi.dst v) w→Q (.panic c) a w:=by first|exact fun _ _ _ h=>h|exact fun _ _ _ h=>nomatch h.1):wpAnyD P md ops Q S hd (fuel+1) listed a w:=by
 simp only[Bool.and_eq_true] at hb;exact Qaa hi hb.1.1.1.1 hb.1.1.1.2 hb.1.1.2 hb.1.2 hb.2 hQ hw hy hS h
end
end Go.Proofs.YtegaapiocihcpaaGreatDoor
