/- Texts of SpC. -/
import Derived.Maps.RangeWalk
import Derived.WalkKit
import Derived.WalkSpells
import Derived.WalkLawsBesides
import Derived.Deep.AppendLies
import Derived.Deep.Draws
import Derived.Lib.Hide
import Derived.Test.YtegaapiocihcpaaDoorRows
import Derived.Lib.LaidTab
import Derived.LaidSub
import Derived.Deep.QuietTactic
import Derived.BigQuiet
import Derived.IntWalk
import Derived.Shelf.Spec.SlicesGrow
import Derived.Shelf.SlGeneric
import Derived.Test.YtegaapiocihcpaaDoorProg
import Derived.OrdersHeld
import Derived.ArgAppend
set_option maxHeartbeats 1000000
namespace Go.Proofs.YtegaapiocihcpaaDoor
open Go.RowKit
theorem bR {B:Nat}{w:World}:Below B w w:=Below.refl B w
theorem nL {n:Nat}:n≤n:=Nat.le_refl n
theorem qM {α β:Type}{l:List α}(f:α→β):(l.map f).length=l.length:=List.length_map f
theorem qA {α:Type}{l m:List α}:(l++m).length=l.length+m.length:=List.length_append
theorem qT {α:Type}{n:Nat}{l:List α}(h:n<l.length):l.take (n+1)=l.take n++[l[n]]:=List.take_succ_eq_append_getElem h
theorem qG {α:Type}{l:List α}{i:Nat}(h:i<l.length):l[i]? =some l[i]:=List.getElem?_eq_getElem h
theorem qK {α:Type}{i:Nat}{l:List α}:(l.take i).length=min i l.length:=List.length_take
theorem qC {α:Type}{a:α}{l:List α}:(a::l).length=l.length+1:=List.length_cons
theorem Lh {p:Prop}(h:p):Hid p:=h
theorem sA0 {α:Type}(l:List α)(i:Nat)(a:α):l.toArray.setIfInBounds i a=(l.set i a).toArray:=List.setIfInBounds_toArray l i a
theorem sZ0 {α:Type}{x:α}{xs:List α}{a:α}:(x::xs).set 0 a=a::xs:=rfl
theorem sS0 {α:Type}{x:α}{xs:List α}{i:Nat}{a:α}:(x::xs).set (i+1) a=x::xs.set i a:=rfl
def Kept (S:Nat→Prop)(w w':World):Prop:=∀i,S i→i<w.heap.size→w'.heap[i]? =w.heap[i]?
theorem Kept.cell {S:Nat→Prop}{w w':World}(h:Kept S w w'){b o:Nat}{u:Value}(hb:S b)(hc:w.cell? ⟨b,o,none⟩=some u):w'.cell? ⟨b,o,none⟩=some u:=
 (World.cell?_of_block (a:=⟨b,o,none⟩) (h b hb (World.block_lt_of_cell? w ⟨b,o,none⟩ hc))).trans hc
theorem Kept.below {B:Nat}{S:Nat→Prop}{w w':World}(h:Below B w w')(hS:∀i,S i→i<B):Kept S w w':=fun i hi _=>h.block i (hS i hi)
theorem Kept.all {S:Nat→Prop}{w w':World}(h:Below w.heap.size w w'):Kept S w w':=fun i _ hl=>h.block i hl
theorem Kept.grown {S:Nat→Prop}{w w':World}{row:Option Nat}(h:w.grownBy w' row)(hS:∀i,S i→some i≠row):Kept S w w':=fun i hi hl=>h.block i hl (hS i hi)
theorem Kept.mono {S S':Nat→Prop}{w w':World}(h:Kept S w w')(hS:∀i,S' i→S i):Kept S' w w':=fun i hi hl=>h i (hS i hi) hl
theorem Below.dn {B:Nat}{a w:World}(h:Below B a w)(n:Nat):Below B a (w.drewN n):=⟨h.os,h.tape,h.output,h.size,h.block⟩
theorem Qae {k:IntKind}{a b:Int}(h:a=b):Ending.returned (.int k a)=.returned (.int k b):=by rw[h]
theorem Qao {a b:Bool}(h:a=b):Ending.returned (.bool a)=.returned (.bool b):=by rw[h]
theorem take_succ_eq {α:Type}{a b:List α}{k:Nat}(ha:k<a.length)(hb:k<b.length)(h:a.take k=b.take k)(e:a[k]=b[k]):a.take (k+1)=b.take (k+1):=by
 rw[qT ha,qT hb,h,e]
theorem ne_at {α:Type}{a b:List α}{k:Nat}(ha:k<a.length)(hb:k<b.length)(e:a[k]≠b[k]):a≠b:=by
 rintro rfl;exact e rfl
theorem eq_all {α:Type}{a b:List α}{k:Nat}(ha:a.length≤k)(hb:b.length≤k)(h:a.take k=b.take k):a=b:=by
 rwa [List.take_of_length_le ha,List.take_of_length_le hb] at h
theorem QaU {W:World}{o:Obj}{B:Nat}(h:W.heap.size=B):(W.alloc o).heap[B]? =some o:=by subst h;exact heap_alloc_new W o
theorem heap_at_dn {W:World}{o:Obj}{B n:Nat}(h:W.heap.size=B):((W.alloc o).drewN n).heap[B]? =some o:=by subst h;exact heap_alloc_new W o
class Rep (α:Type) where
 size:Nat
 R:World→(Nat→Prop)→List Value→α→Prop
 len:∀{w S cs a},R w S cs a→cs.length=size
 one:∀{w S cs a},R w S cs a→∀u∈cs,u.oneCell'=true
 keep:∀{w w' S cs a},R w S cs a→Kept S w w'→R w' S cs a
 mono:∀{w S S' cs a},R w S cs a→(∀i,S i→i<w.heap.size→S' i)→R w S' cs a
def Sl {α:Type}[Rep α](w:World)(S:Nat→Prop)(A:Option Addr)(c:Nat)(l:List α):Prop:=
 l.length≤c∧c≤maxLen∧(0<l.length→∃b o,A=some ⟨b,o,none⟩∧S b∧b<w.heap.size∧ ∀i,(h:i<l.length)→∃es,Rep.R w S es l[i]∧∀j u,es[j]? =some u→w.cell? ⟨b,o+i*Rep.size α+j,none⟩=some u)
theorem Sl.keep {α:Type}[Rep α]{w w':World}{S:Nat→Prop}{A:Option Addr}{c:Nat}{l:List α}(h:Sl w S A c l)(hk:Kept S w w')(hsz:w.heap.size≤w'.heap.size):Sl w' S A c l:=by
 refine⟨h.1,h.2.1,fun hn=>?_⟩;obtain⟨b,o,e,hb,hlt,hx⟩:=h.2.2 hn;refine⟨b,o,e,hb,by omega,fun i hi=>?_⟩;obtain⟨es,hr,hc⟩:=hx i hi;exact⟨es,Rep.keep hr hk,fun j u hu=>hk.cell hb (hc j u hu)⟩
theorem Sl.mono {α:Type}[Rep α]{w:World}{S S':Nat→Prop}{A:Option Addr}{c:Nat}{l:List α}(h:Sl w S A c l)(hS:∀i,S i→i<w.heap.size→S' i):Sl w S' A c l:=by
 refine⟨h.1,h.2.1,fun hn=>?_⟩;obtain⟨b,o,e,hb,hlt,hx⟩:=h.2.2 hn;refine⟨b,o,e,hS b hb hlt,hlt,fun i hi=>?_⟩;obtain⟨es,hr,hc⟩:=hx i hi;exact⟨es,Rep.mono hr hS,hc⟩
theorem Sl.nil {α:Type}[Rep α](w:World)(S:Nat→Prop)(A:Option Addr)(c:Nat)(hc:c≤maxLen):Sl w S A c ([]:List α):=⟨by simp,hc,fun h=>absurd h (by simp)⟩
theorem Sl.at_ {α:Type}[Rep α]{w:World}{S:Nat→Prop}{A:Option Addr}{c:Nat}{l:List α}(h:Sl w S A c l){k:Nat}(hk:k<l.length):
 ∃b o es,A=some ⟨b,o,none⟩∧S b∧b<w.heap.size∧Rep.R w S es l[k]∧∀j u,es[j]? =some u→w.cell? ⟨b,o+k*Rep.size α+j,none⟩=some u:=by
 obtain⟨b,o,e,hb,hlt,hx⟩:=h.2.2 (by omega);obtain⟨es,hr,hc⟩:=hx k hk;exact⟨b,o,es,e,hb,hlt,hr,hc⟩
theorem Qat (b o k:Nat):(⟨b,o,none⟩:Addr).add k=⟨b,o+k,none⟩:=by
 unfold Addr.add;split<;>simp_all
theorem Sl.take {α:Type}[Rep α]{w:World}{S:Nat→Prop}{A:Option Addr}{c:Nat}{l:List α}(h:Sl w S A c l)(k:Nat)(_hk:k≤l.length):Sl w S A c (l.take k):=by
 refine⟨by have:=h.1;rw[qK];omega,h.2.1,fun hn=>?_⟩;have hn':0<l.length:=by rw[qK] at hn;omega
 obtain⟨b,o,e,hb,hlt,hx⟩:=h.2.2 hn';refine⟨b,o,e,hb,hlt,fun i hi=>?_⟩;have hi':i<l.length:=by rw[qK] at hi;omega
 obtain⟨es,hr,hc⟩:=hx i hi';exact⟨es,by rw[List.getElem_take];exact hr,hc⟩
theorem Sl.drop {α:Type}[Rep α]{w:World}{S:Nat→Prop}{A:Option Addr}{c:Nat}{l:List α}(h:Sl w S A c l)(k:Nat)(hk:k≤l.length):
 Sl w S (if c=k then A else A.map (·.add (k*Rep.size α))) (c-k) (l.drop k):=by
 refine⟨by have:=h.1;rw[List.length_drop];omega,by have:=h.2.1;omega,fun hn=>?_⟩;rw[List.length_drop] at hn;obtain⟨b,o,rfl,hb,hlt,hx⟩:=h.2.2 (by omega);rw[if_neg (by have:=h.1;omega)];refine⟨b,o+k*Rep.size α,by simp[Qat],hb,hlt,fun i hi=>?_⟩;have hi':k+i<l.length:=by rw[List.length_drop] at hi;omega
 obtain⟨es,hr,hc⟩:=hx (k+i) hi';refine⟨es,by rw[List.getElem_drop];exact hr,fun j u hu=>?_⟩;have e:=hc j u hu;rwa [Nat.add_mul,←Nat.add_assoc] at e
theorem Sl.alloc {α:Type}[Rep α]{w:World}{A:Option Addr}{c:Nat}{l:List α}(h:Sl w (fun b=>b<w.heap.size) A c l)(o:Obj):Sl (w.alloc o) (fun b=>b<(w.alloc o).heap.size) A c l:=
 (h.keep (Kept.all (bR.alloc nL o)) (by simp)).mono fun i hi _=>by simp;omega
theorem Sl.to {α:Type}[Rep α]{w w':World}{A:Option Addr}{c:Nat}{l:List α}(h:Sl w (fun b=>b<w.heap.size) A c l)(hb:Below w.heap.size w w'):Sl w' (fun b=>b<w'.heap.size) A c l:=
 (h.keep (Kept.all hb) hb.size).mono fun i hi _=>by have:=hb.size;omega
theorem Sl.drew {α:Type}[Rep α]{w:World}{A:Option Addr}{c:Nat}{l:List α}(h:Sl w (fun b=>b<w.heap.size) A c l):Sl w.drew (fun b=>b<w.drew.heap.size) A c l:=h.to (bR.drew)
theorem Sl.dn {α:Type}[Rep α]{w:World}{A:Option Addr}{c:Nat}{l:List α}(h:Sl w (fun b=>b<w.heap.size) A c l)(n:Nat):Sl (w.drewN n) (fun b=>b<(w.drewN n).heap.size) A c l:=h.to (Below.dn bR n)
theorem Sl.block {α:Type}[Rep α]{w:World}{B:Nat}{cs:Array Value}{te:TypeId}{fr:Nat × Nat}{l:List α}{S:Nat→Prop}(hB:w.heap[B]? =some (.cells cs te fr))(hS:S B)(hm:l.length≤maxLen) (hr:∀i,(h:i<l.length)→Rep.R w S ((cs.toList.drop (i*Rep.size α)).take (Rep.size α)) l[i]):Sl w S (some ⟨B,0,none⟩) l.length l:=by
 refine⟨Nat.le_refl _,hm,fun _=>⟨B,0,rfl,hS,(Array.getElem?_eq_some_iff.1 hB).1,fun i hi=>⟨_,hr i hi,fun j u hu=>?_⟩⟩⟩;rw[Nat.zero_add,cell_of_row w B _ cs te fr hB];rw[List.getElem?_take] at hu;split at hu
 ·rw[List.getElem?_drop] at hu;simpa using hu
 ·cases hu
instance instRepList {α:Type}[Rep α]:Rep (List α) where
 size:=1
 R w S cs l:=∃A c,cs=[.slice A l.length c]∧Sl w S A c l∧l.length<9223372036854775808
 len:=by rintro w S cs l ⟨A,c,rfl,_⟩;rfl
 one:=by rintro w S cs l ⟨A,c,rfl,_⟩ u hu;simp at hu;subst hu;rfl
 keep:=by
  rintro w w' S cs l ⟨A,c,rfl,h,hl⟩ hk;refine⟨A,c,rfl,?_,hl⟩;refine⟨h.1,h.2.1,fun hn=>?_⟩;obtain⟨b,o,e,hb,hlt,hx⟩:=h.2.2 hn;have hlt':b<w'.heap.size:=by
   have e1:=hk b hb hlt;rw[Array.getElem?_eq_getElem hlt] at e1;exact(Array.getElem?_eq_some_iff.1 e1).1
  refine⟨b,o,e,hb,hlt',fun i hi=>?_⟩;obtain⟨es,hr,hc⟩:=hx i hi;exact⟨es,Rep.keep hr hk,fun j u hu=>hk.cell hb (hc j u hu)⟩
 mono:=by rintro w S S' cs l ⟨A,c,rfl,h,hl⟩ hS;exact⟨A,c,rfl,h.mono hS,hl⟩
theorem Sl.flat {α:Type}[Rep α]{w:World}{S:Nat→Prop}{A:Option Addr}{c:Nat}{l:List α}(h:Sl w S A c l)(hn:0<l.length):
 ∃(b o:Nat) (xs:List Value),A=some ⟨b,o,none⟩∧S b∧b<w.heap.size∧xs.length=l.length*Rep.size α∧(∀u∈xs,u.oneCell'=true)∧(∀j u,xs[j]? =some u→w.cell? ⟨b,o+j,none⟩=some u)∧ ∀i,(h:i<l.length)→Rep.R w S ((xs.drop (i*Rep.size α)).take (Rep.size α)) l[i]:=by
 obtain⟨b,o,rfl,hb,hlt,hx⟩:=h.2.2 hn;clear h;refine⟨b,o,?_⟩;suffices H:∀k,k≤l.length→∃xs:List Value,xs.length=k*Rep.size α∧(∀u∈xs,u.oneCell'=true)∧(∀j u,xs[j]? =some u→w.cell? ⟨b,o+j,none⟩=some u)∧ ∀i,(h:i<k)→(h':i<l.length)→Rep.R w S ((xs.drop (i*Rep.size α)).take (Rep.size α)) l[i] by
  obtain⟨xs,h1,h2,h3,h4⟩:=H l.length nL;exact⟨xs,rfl,hb,hlt,h1,h2,h3,fun i hi=>h4 i hi hi⟩
 intro k;induction k with
 |zero=>intro _;exact⟨[],by simp,by simp,by simp,fun i hi=>absurd hi (by omega)⟩
 |succ k ih=>
  intro hk;obtain⟨xs,h1,h2,h3,h4⟩:=ih (by omega);obtain⟨es,hr,hc⟩:=hx k (by omega);have hel:=Rep.len hr;refine⟨xs++es,by rw[qA,h1,hel,Nat.add_mul,Nat.one_mul],?_,?_,?_⟩
  ·intro u hu;rcases List.mem_append.1 hu with h|h
   ·exact h2 u h
   ·exact Rep.one hr u h
  ·intro j u hu;by_cases hj:j<xs.length
   ·rw[List.getElem?_append_left hj] at hu;exact h3 j u hu
   ·rw[List.getElem?_append_right (by omega)] at hu;have:=hc _ u hu;have e:o+k*Rep.size α+(j-xs.length)=o+j:=(by rw[h1] at hj ⊢;omega);rwa [e] at this
  ·intro i hi hi';by_cases hik:i<k
   ·have e:(i+1)*Rep.size α≤xs.length:=by rw[h1];exact Nat.mul_le_mul_right _ hik
    rw[Nat.add_mul,Nat.one_mul] at e;rw[List.drop_append_of_le_length (by omega),List.take_append_of_le_length (by rw[List.length_drop];omega)];exact h4 i hik hi'
   ·obtain rfl:i=k:=by omega
    rw[List.drop_append,List.drop_of_length_le (by omega),h1,Nat.sub_self,List.drop_zero,List.nil_append,List.take_of_length_le (by omega)];exact hr
def Own {α:Type}[Rep α](w:World)(base:Nat)(e:TypeId)(v:Value)(l:List α):Prop:=
 ∃xs,w.ownsRow base e (Rep.size α) v l.length xs∧(∀u∈xs,u.oneCell'=true)∧∀i,(h:i<l.length)→Rep.R w (fun b=>some b≠v.ownBlock) ((xs.drop (i*Rep.size α)).take (Rep.size α)) l[i]
section
variable {α:Type} [Rep α] {w w':World} {base:Nat} {e:TypeId} {v:Value} {l:List α}
theorem Own.nil (w:World)(base:Nat)(e:TypeId):Own w base e (.slice none 0 0) ([]:List α):=⟨[],World.ownsRow_nil _ _ _ _,by simp,fun i h=>absurd h (by simp)⟩
theorem Own.kept (h:Own w base e v l)(hk:∀i,i<w.heap.size→w'.heap[i]? =w.heap[i]?):Own w' base e v l:=by
 obtain⟨xs,hx,ho,hr⟩:=h;refine⟨xs,⟨hx.1,?_⟩,ho,fun i hi=>Rep.keep (hr i hi) (fun b _ hb=>hk b hb)⟩;rcases hx.2 with hn|⟨g,cap,cur,hv,hb,hg,rest⟩
 ·exact .inl hn
 ·refine .inr ⟨g,cap,cur,hv,hb,?_,rest⟩;rw[hk g (Array.getElem?_eq_some_iff.1 hg).1];exact hg
theorem Own.below (h:Own w base e v l)(hb:Below w.heap.size w w'):Own w' base e v l:=h.kept hb.block
theorem Own.re (h:Own w base e v l){B:Nat}(hB:B≤base):Own w B e v l:=by
 obtain⟨xs,hx,ho,hr⟩:=h;exact⟨xs,⟨hx.1,hx.2.imp id (fun⟨g,cap,cur,h1,h2,h3⟩=>⟨g,cap,cur,h1,by omega,h3⟩)⟩,ho,hr⟩
theorem Own.drew (h:Own w base e v l):Own w.drew base e v l:=h.kept fun _ _=>rfl
theorem Own.drewN (h:Own w base e v l)(n:Nat):Own (w.drewN n) base e v l:=h.kept fun _ _=>rfl
theorem Own.alloc (h:Own w base e v l)(o:Obj):Own (w.alloc o) base e v l:=h.kept (fun i hi=>Below.heap_alloc w o i hi)
theorem Own.form (h:Own w base e v l):∃A c,v=.slice A l.length c∧(∀a,A=some a→base≤a.block∧a.block<w.heap.size)∧l.length≤c∧c≤maxLen:=by
 obtain⟨xs,hx,_,_⟩:=h;rcases hx.2 with⟨rfl,hn⟩|⟨g,cap,cur,rfl,hb,hg,hnc,hcm,_⟩
 ·exact⟨none,0,by rw[hn],by simp,by omega,by simp[maxLen]⟩
 ·exact⟨some ⟨g,0,none⟩,cap,rfl,by rintro a ⟨⟩;exact⟨hb,(Array.getElem?_eq_some_iff.1 hg).1⟩,hnc,hcm⟩
theorem Own.lt (h:Own w base e v l):∀k,v.ownBlock=some k→base≤k∧k<w.heap.size:=by
 obtain⟨xs,hx,_,_⟩:=h;exact hx.lt
theorem Own.sl (h:Own w base e v l):∃A c,v=.slice A l.length c∧Sl w (fun b=>b<w.heap.size) A c l:=by
 obtain⟨xs,hx,ho,hr⟩:=h;rcases hx.2 with⟨rfl,hn⟩|⟨g,cap,cur,rfl,hb,hg,hnc,hcm,hcs,htake⟩
 ·exact⟨none,0,by rw[hn],by omega,by simp[maxLen],fun h=>absurd h (by omega)⟩
 ·have hlt:=(Array.getElem?_eq_some_iff.1 hg).1;refine⟨some ⟨g,0,none⟩,cap,rfl,hnc,hcm,fun _=>⟨g,0,rfl,hlt,hlt,fun i hi=>⟨_,Rep.mono (hr i hi) (fun b _ hb'=>hb'),fun j u hu=>?_⟩⟩⟩;rw[Nat.zero_add]
  have e1:=hx.cells (g:=g) rfl (i*Rep.size α+j) u (by
   rw[List.getElem?_take] at hu
   split at hu
   ·rwa [List.getElem?_drop] at hu
   ·cases hu)
  rwa [Qat,Nat.zero_add] at e1
theorem Own.more {v':Value}{m:List α}{news:List Value}{H:Nat}(h:Own w base e v l) (hown:∀xs:List Value,w.ownsRow base e (Rep.size α) v l.length xs→w'.ownsRow base e (Rep.size α) v' (l++m).length (xs++news)) (hg:w.grownBy w' v.ownBlock) (hat:v'.ownBlock=v.ownBlock∨v'.ownBlock=some H) (hH:w.heap.size≤H) (ho':∀u∈news,u.oneCell'=true) (_hnl:news.length=m.length*Rep.size α) (hm:∀i,(h:i<m.length)→Rep.R w (fun b=>some b≠v.ownBlock) ((news.drop (i*Rep.size α)).take (Rep.size α)) m[i]):Own w' base e v' (l++m):=by
 obtain⟨xs,hx,ho,hr⟩:=h;have hxl:=hx.1;have kp:Kept (fun b=>some b≠v.ownBlock) w w':=Kept.grown hg (fun i hi=>hi);have hS:∀i,some i≠v.ownBlock→i<w.heap.size→some i≠v'.ownBlock:=by
  intro i hi hlt;rcases hat with e1|e1
  ·rw[e1];exact hi
  ·rw[e1];intro e2;injection e2 with e2;omega
 have fin:∀{cs:List Value} {a:α},Rep.R w (fun b=>some b≠v.ownBlock) cs a→Rep.R w' (fun b=>some b≠v'.ownBlock) cs a:=by
  intro cs a h;have h1:=Rep.mono (S':=fun b=>some b≠v.ownBlock∧some b≠v'.ownBlock) h (fun i hi hlt=>⟨hi,hS i hi hlt⟩);exact Rep.mono (Rep.keep h1 (kp.mono fun i hi=>hi.1)) (fun i hi _=>hi.2)
 refine⟨xs++news,hown xs hx,?_,fun i hi=>?_⟩
 ·intro u hu;rcases List.mem_append.1 hu with h|h
  ·exact ho u h
  ·exact ho' u h
 ·by_cases hil:i<l.length
  ·have e:(i+1)*Rep.size α≤xs.length:=by rw[hxl];exact Nat.mul_le_mul_right _ hil
   rw[Nat.add_mul,Nat.one_mul] at e;rw[List.drop_append_of_le_length (by omega),List.take_append_of_le_length (by rw[List.length_drop];omega),List.getElem_append_left hil];exact fin (hr i hil)
  ·have him:i-l.length<m.length:=by rw[qA] at hi;omega
   have e:i*Rep.size α=xs.length+(i-l.length)*Rep.size α:=by
    rw[hxl,←Nat.add_mul];congr 1;omega
   rw[List.getElem_append_right (by omega),List.drop_append,List.drop_of_length_le (by omega),List.nil_append,e,Nat.add_sub_cancel_left];exact fin (hm _ him)
end
theorem Qbk {α:Type}[Rep α]{B:Nat}{w0 w1 w2:World}{e:TypeId}{v:Value}{l:List α}{o:Obj}(hb:Below B w0 w1)(hown:Own w1 B e v l)(hB:B≤w1.heap.size)(hg:(w1.alloc o).grownBy w2 v.ownBlock):Below B w0 w2:=
 (hb.alloc hB o).grown hg (by simp;omega) (fun k hk=>(hown.lt k hk).1)
theorem keep_cat {α:Type}[Rep α]{B:Nat}{w1 w2:World}{e:TypeId}{v:Value}{l:List α}(hown:Own w1 B e v l)(hg:w1.grownBy w2 v.ownBlock){b:Nat}(hb:b<B)(hlt:b<w1.heap.size):w2.heap[b]? =w1.heap[b]? :=
 hg.block b hlt (fun e=>by have:=(hown.lt b e.symm).1;omega)
theorem keep_push {α:Type}[Rep α]{B:Nat}{w1 w2:World}{e:TypeId}{v:Value}{l:List α}{o:Obj}(hown:Own w1 B e v l)(hg:(w1.alloc o).grownBy w2 v.ownBlock){b:Nat}(hb:b<B)(hlt:b<w1.heap.size):w2.heap[b]? =w1.heap[b]? :=
 (hg.block b (by simp;omega) (fun e=>by have:=(hown.lt b e.symm).1;omega)).trans (Below.heap_alloc w1 o b hlt)
theorem Own.setf {α:Type}[Rep α]{w:World}{base:Nat}{e:TypeId}{g n cap:Nat}{l:List α}(h:Own w base e (.slice (some ⟨g,0,none⟩) n cap) l)(k j:Nat)(hk:k<l.length)(hj:j<Rep.size α)(u:Value)(hu:u.oneCell'=true)(d':α) (hd:∀S es,Rep.R w S es l[k]→Rep.R w S (es.set j u) d') {o:Nat} (ho:o=k*Rep.size α+j):
 Own (w.setCell ⟨g,o,none⟩ u) base e (.slice (some ⟨g,0,none⟩) n cap) (l.set k d')∧w.grownBy (w.setCell ⟨g,o,none⟩ u) (some g):=by
 subst ho;obtain⟨xs,hx,ho1,hr⟩:=h;obtain rfl:n=l.length:=by
  rcases hx.2 with⟨h1,_⟩|⟨g',cap',cur,h1,_⟩
  ·cases h1
  ·cases h1;rfl
 have hst:=hx.stored (k*Rep.size α+j) u;have hxl:=hx.1;have hkk:(k+1)*Rep.size α≤xs.length:=by rw[hxl];exact Nat.mul_le_mul_right _ hk
 rw[Nat.add_mul,Nat.one_mul] at hkk;have kp:Kept (fun b=>some b≠(Value.slice (some ⟨g,0,none⟩) l.length cap).ownBlock) w (w.setCell ⟨g,k*Rep.size α+j,none⟩ u):=Kept.grown hst.2 (fun i hi=>hi);refine⟨⟨xs.set (k*Rep.size α+j) u,by rw[List.length_set];exact hst.1,?_,fun i hi=>?_⟩,hst.2⟩
 ·intro y hy;rcases List.mem_or_eq_of_mem_set hy with h|h
  ·exact ho1 y h
  ·rw[h];exact hu
 ·rw[List.length_set] at hi;rw[List.drop_set,List.getElem_set];by_cases hik:k=i
  ·subst hik;rw[if_neg (by omega),if_pos rfl,Nat.add_sub_cancel_left,List.take_set];exact Rep.keep (hd _ _ (hr k hi)) kp
  ·rw[if_neg hik];by_cases hlt:k<i
   ·have:(k+1)*Rep.size α≤i*Rep.size α:=Nat.mul_le_mul_right _ hlt;rw[Nat.add_mul,Nat.one_mul] at this;rw[if_pos (by omega)];exact Rep.keep (hr i hi) kp
   ·have:(i+1)*Rep.size α≤k*Rep.size α:=Nat.mul_le_mul_right _ (by omega:i+1≤k);rw[Nat.add_mul,Nat.one_mul] at this;rw[if_neg (by omega),List.take_set,List.set_eq_of_length_le (by rw[qK];omega)];exact Rep.keep (hr i hi) kp
theorem Own.at_ {α:Type}[Rep α]{w:World}{base:Nat}{e:TypeId}{v:Value}{l:List α}(h:Own w base e v l){k:Nat}(hk:k<l.length):
 ∃g cap es,v=.slice (some ⟨g,0,none⟩) l.length cap∧base≤g∧g<w.heap.size∧l.length≤cap∧Rep.R w (fun b=>b≠g) es l[k]∧(∀j u,es[j]? =some u→w.cell? ⟨g,k*Rep.size α+j,none⟩=some u)∧∀o,w.frozen? ⟨g,o,none⟩=false:=by
 obtain⟨xs,hx,ho,hr⟩:=h;rcases hx.2 with⟨rfl,hn⟩|⟨g,cap,cur,rfl,hb,hg,hnc,hcm,hcs,htake⟩
 ·omega
 ·have hlt:=(Array.getElem?_eq_some_iff.1 hg).1;refine⟨g,cap,_,rfl,hb,hlt,hnc,Rep.mono (hr k hk) (fun b hb' _=>by simpa[Value.ownBlock] using hb'),fun j u hu=>?_,fun o=>hx.frozenAt o⟩
  have e1:=hx.cells (g:=g) rfl (k*Rep.size α+j) u (by
   rw[List.getElem?_take] at hu
   split at hu
   ·rwa [List.getElem?_drop] at hu
   ·cases hu)
  rwa [Qat,Nat.zero_add] at e1
theorem grown_trans2 {a b c:World}{row:Option Nat}(h:a.grownBy b row)(k:b.grownBy c row):a.grownBy c row:=
 ⟨k.os.trans h.os,k.tape.trans h.tape,k.output.trans h.output,Nat.le_trans h.size k.size,fun i hi hne=>(k.block i (Nat.lt_of_lt_of_le hi h.size) hne).trans (h.block i hi hne)⟩
theorem grown_drew {a b:World}{row:Option Nat}(h:a.grownBy b row):a.grownBy b.drew row:=⟨h.os,h.tape,h.output,h.size,h.block⟩
theorem grown_dn {a b:World}{row:Option Nat}(h:a.grownBy b row)(n:Nat):a.grownBy (b.drewN n) row:=⟨h.os,h.tape,h.output,h.size,h.block⟩
theorem Qc9 {a b:World}(h:Below a.heap.size a b)(row:Option Nat):a.grownBy b row:=⟨h.os,h.tape,h.output,h.size,fun i hi _=>h.block i hi⟩
section
variable {P:Program} (w:World) {α:Type} [Rep α]
theorem wp_push {o:Oper}{a:Act}{K:Act→World→Prop}{Q:Exit→Act→World→Prop}(s x:Operand)(t:TypeId) (ho:o.op=.call {callee:=.builtin .append,args:=#[s,x],argTypes:=#[t,t]}) (base:Nat) (e:TypeId) (z:Value) (bytes:Nat) (ht:P.underlying t=some (.slice e)) (hinfo:(P.info? e).map (fun i=>(i.zero,i.size,i.bytes))=some (some z,Rep.size α,bytes)) (hzs:z.cells.size=Rep.size α) (hsz:0<Rep.size α) (v:Value) (l:List α) (hs:a.eval s=v) (hown:Own w base e v l) (B:Nat) (es:Array Value) (d:α) (fr:Nat × Nat) (te:TypeId) (hx:a.eval x=.slice (some ⟨B,0,none⟩) 1 1) (hB:w.heap[B]? =some (.cells es te fr)) (hr:Rep.R w (fun b=>some b≠v.ownBlock) es.toList d) (h63:(l.length+1)*bytes≤140737488355328) (hml:l.length+1≤9223372036854775807) (hbase:base≤w.heap.size) (H:Nat) (hH:w.heap.size=H) (h:∀g cap w',Own w' base e (.slice (some ⟨g,0,none⟩) (l.length+1) cap) (l++[d])→w.grownBy w' v.ownBlock→(v.ownBlock=some g∨g=H)→g<w'.heap.size→K (a.put o.dst (.slice (some ⟨g,0,none⟩) (l.length+1) cap)) w'):o.wp P a w K Q:=by
 obtain⟨i,hi,hz,hz1,hz2⟩:=info_parts hinfo;obtain⟨xs,hx1,ho1,hr1⟩:=id hown;have hel:=Rep.len hr;refine wp_append_lies (P:=P) w s x t ho base e i z (Rep.size α) bytes ht hi hz hz1 hz2 hzs hsz v l.length xs hs hx1 ⟨B,0,none⟩ 1 1 es.toList hx (by rw[hel];omega) (World.news_of_block hB) (Rep.one hr) (by omega) (by simp only[maxLen];omega) h63 hbase H hH ?_;intro g cap w' hown' hgrow hat hlt;refine h g cap w' ?_ hgrow hat hlt;refine hown.more (news:=es.toList) (H:=H) (fun ys hy=>?_) hgrow ?_ (by omega) (Rep.one hr) (by rw[hel];simp) ?_
 ·have e1:(l++[d]).length=l.length+1:=by simp
  rw[e1];obtain rfl:xs=ys:=by
   rcases hx1.2 with⟨r1,r2⟩|⟨g1,c1,cu1,r1,_,r3,_,_,_,r4⟩
   ·have:=hx1.1;have:=hy.1;rw[r2] at*;simp at*;simp[*]
   ·rcases hy.2 with⟨q1,q2⟩|⟨g2,c2,cu2,q1,_,q3,_,_,_,q4⟩
    ·rw[r1] at q1;cases q1
    ·rw[r1] at q1;cases q1;rw[r3] at q3;cases q3;rw[←r4,←q4]
  exact hown'
 ·rcases hat with e1|e1
  ·exact .inl e1.symm
  ·exact .inr (by rw[←e1];rfl)
 ·intro i hi;obtain rfl:i=0:=by simpa using hi
  simp only[Nat.zero_mul,List.drop_zero,List.getElem_singleton];rw[List.take_of_length_le (by omega)];exact hr
theorem Qan {ops:Array Oper}{rest:List Oper}{o:Oper}{a:Act}{Q:Exit→Act→World→Prop}(hgd:o.guard=none)(s x:Operand)(t:TypeId) (ho:o.op=.call {callee:=.builtin .append,args:=#[s,x],argTypes:=#[t,t]}) (base:Nat) (e:TypeId) (z:Value) (bytes:Nat) (ht:P.underlying t=some (.slice e)) (hinfo:(P.info? e).map (fun i=>(i.zero,i.size,i.bytes))=some (some z,Rep.size α,bytes)) (hzs:z.cells.size=Rep.size α) (hsz:0<Rep.size α) (v:Value) (l:List α) (hs:a.eval s=v) (hown:Own w base e v l) (B:Nat) (es:Array Value) (d:α) (fr:Nat × Nat) (te:TypeId) (hx:a.eval x=.slice (some ⟨B,0,none⟩) 1 1) (hB:w.heap[B]? =some (.cells es te fr)) (hr:Rep.R w (fun b=>some b≠v.ownBlock) es.toList d) (h63:(l.length+1)*bytes≤140737488355328) (hml:l.length+1≤9223372036854775807) (hbase:base≤w.heap.size) (H:Nat) (hH:w.heap.size=H) (h:∀g cap w',Own w' base e (.slice (some ⟨g,0,none⟩) (l.length+1) cap) (l++[d])→w.grownBy w' v.ownBlock→(v.ownBlock=some g∨g=H)→g<w'.heap.size→wpList P ops Q rest (a.put o.dst (.slice (some ⟨g,0,none⟩) (l.length+1) cap)) w'):wpList P ops Q (o::rest) a w:=
 wpList_plain hgd fun _ hK=>wp_push w s x t ho base e z bytes ht hinfo hzs hsz v l hs hown B es d fr te hx hB hr h63 hml hbase H hH fun g cap w' h2 h3 h4 h5=>hK _ _ (h g cap w' h2 h3 h4 h5)
theorem Qcd {ops:Array Oper}{o:Oper}{a:Act}{K:Act→World→Prop}{Q:Exit→Act→World→Prop}{E:Prop}(hgd:o.guard=none)(s x:Operand)(t:TypeId) (ho:o.op=.call {callee:=.builtin .append,args:=#[s,x],argTypes:=#[t,t]}) (base:Nat) (e:TypeId) (z:Value) (bytes:Nat) (ht:P.underlying t=some (.slice e)) (hinfo:(P.info? e).map (fun i=>(i.zero,i.size,i.bytes))=some (some z,Rep.size α,bytes)) (hzs:z.cells.size=Rep.size α) (hsz:0<Rep.size α) (v:Value) (l:List α) (hs:a.eval s=v) (hown:Own w base e v l) (B:Nat) (es:Array Value) (d:α) (fr:Nat × Nat) (te:TypeId) (hx:a.eval x=.slice (some ⟨B,0,none⟩) 1 1) (hB:w.heap[B]? =some (.cells es te fr)) (hr:Rep.R w (fun b=>some b≠v.ownBlock) es.toList d) (h63:(l.length+1)*bytes≤140737488355328) (hml:l.length+1≤9223372036854775807) (hbase:base≤w.heap.size) (H:Nat) (hH:w.heap.size=H) (h:∀g cap w',Own w' base e (.slice (some ⟨g,0,none⟩) (l.length+1) cap) (l++[d])→w.grownBy w' v.ownBlock→(v.ownBlock=some g∨g=H)→g<w'.heap.size→K (a.put o.dst (.slice (some ⟨g,0,none⟩) (l.length+1) cap)) w'):
 if Region.wanted o (yielded ops a.tmps)=true then Oper.wp P o a w K Q else E:=by
 have hw:Region.wanted o (yielded ops a.tmps)=true:=by simp[Region.wanted,hgd]
 rw[if_pos hw];exact wp_push w s x t ho base e z bytes ht hinfo hzs hsz v l hs hown B es d fr te hx hB hr h63 hml hbase H hH h
theorem run_cat (base:Nat)(t ty e:TypeId)(z:Value)(bytes:Nat)(ht:P.underlying t=some (.slice e))(hinfo:(P.info? e).map (fun i=>(i.zero,i.size,i.bytes))=some (some z,Rep.size α,bytes)) (hzs:z.cells.size=Rep.size α) (hsz:0<Rep.size α) (v:Value) (l:List α) (hown:Own w base e v l) (A:Option Addr) (c n:Nat) (m:List α) (hn:m.length=n) (S:Nat→Prop) (hm:Sl w S A c m) (hS:∀i,S i→i<w.heap.size→some i≠v.ownBlock) (hbytes:(l.length+n)*bytes≤140737488355328) (hml:l.length+n≤9223372036854775807) (hbase:base≤w.heap.size):
 ∃v' w',(Builtin.append_ #[t,t] ty #[v,.slice A n c]).run P w=.ok v' w'∧Own w' base e v' (l++m)∧w.grownBy w' v.ownBlock∧(v'.ownBlock=v.ownBlock∨v'.ownBlock=some w.heap.size):=by
 obtain⟨i,hi,hz,hz1,hz2⟩:=info_parts hinfo;obtain⟨xs,hx1,ho1,hr1⟩:=id hown;subst hn;by_cases h0:0<m.length
 ·obtain⟨b,o,news,rfl,hSb,hlt,hnl,hn1,hnc,hnr⟩:=hm.flat h0;obtain⟨v',w',hrun,h2,h3,_,h5⟩:=run_append_own_at (P:=P) w base t ty e i z (Rep.size α) bytes ht hi hz hz1 hz2 hzs hsz v l.length xs hx1 ⟨b,o,none⟩ m.length c news hnl (fun j u hu=>by rw[Qat];exact hnc j u hu) hn1 (by simp only[maxLen];omega) hbytes hbase
  refine⟨v',w',hrun,?_,h3,h5⟩;refine hown.more (news:=news) (H:=w.heap.size) (fun ys hy=>?_) h3 h5 nL hn1 hnl (fun i hi=>Rep.mono (hnr i hi) (fun b hb hl=>hS b hb hl));have e1:(l++m).length=l.length+m.length:=(by simp);rw[e1];obtain rfl:xs=ys:=by
   rcases hx1.2 with⟨r1,r2⟩|⟨g1,c1,cu1,r1,_,r3,_,_,_,r4⟩
   ·have:=hx1.1;have:=hy.1;rw[r2] at*;simp at*;simp[*]
   ·rcases hy.2 with⟨q1,q2⟩|⟨g2,c2,cu2,q1,_,q3,_,_,_,q4⟩
    ·rw[r1] at q1;cases q1
    ·rw[r1] at q1;cases q1;rw[r3] at q3;cases q3;rw[←r4,←q4]
  exact h2
 ·obtain rfl:m=[]:=List.eq_nil_of_length_eq_zero (by omega);refine⟨v,w,?_,by simpa using hown,World.grownBy.refl _ _,.inl rfl⟩;rcases A with _|a
  ·rcases hx1.2 with⟨rfl,r2⟩|⟨g,cap,cur,rfl,_,_,hnc,_⟩
   ·simp[Builtin.append_,run_underlying ht,sizeOf,typeInfo,hi,Builtin.lenOf,Builtin.firstCells]
   ·simp[Builtin.append_,run_underlying ht,sizeOf,typeInfo,hi,Builtin.lenOf,Builtin.firstCells,hnc,storeCells]
  ·rcases hx1.2 with⟨rfl,r2⟩|⟨g,cap,cur,rfl,_,_,hnc,_⟩
   ·simp[Builtin.append_,run_underlying ht,sizeOf,typeInfo,hi,Builtin.lenOf,Builtin.firstCells,loadCells,loadCellsFrom]
   ·simp[Builtin.append_,run_underlying ht,sizeOf,typeInfo,hi,Builtin.lenOf,Builtin.firstCells,hnc,storeCells,loadCells,loadCellsFrom]
theorem wp_cat {o:Oper}{a:Act}{K:Act→World→Prop}{Q:Exit→Act→World→Prop}(s x:Operand)(t:TypeId) (ho:o.op=.call {callee:=.builtin .append,args:=#[s,x],argTypes:=#[t,t]}) (base:Nat) (e:TypeId) (z:Value) (bytes:Nat) (ht:P.underlying t=some (.slice e)) (hinfo:(P.info? e).map (fun i=>(i.zero,i.size,i.bytes))=some (some z,Rep.size α,bytes)) (hzs:z.cells.size=Rep.size α) (hsz:0<Rep.size α) (v:Value) (l:List α) (hs:a.eval s=v) (hown:Own w base e v l) (A:Option Addr) (c n:Nat) (m:List α) (hx:a.eval x=.slice A n c) (hn:m.length=n) (S:Nat→Prop) (hm:Sl w S A c m) (hS:∀i,S i→i<w.heap.size→some i≠v.ownBlock) (hbytes:(l.length+n)*bytes≤140737488355328) (hml:l.length+n≤9223372036854775807) (hbase:base≤w.heap.size) (h:∀v' w',Own w' base e v' (l++m)→w.grownBy w' v.ownBlock→(v'.ownBlock=v.ownBlock∨v'.ownBlock=some w.heap.size)→K (a.put o.dst v') w'):o.wp P a w K Q:=by
 obtain⟨v',w',hrun,h2,h3,h4⟩:=run_cat (P:=P) w base t o.type e z bytes ht hinfo hzs hsz v l hown A c n m hn S hm hS hbytes hml hbase;unfold Oper.wp execOp;simp only[ho,resolve,invoke,builtin,Sem.run_bind,Sem.run_pure,Result.andThen_ok,List.map_toArray,List.map_cons,List.map_nil,hs,hx,hrun];exact h v' w' h2 h3 h4
theorem QaF {ops:Array Oper}{rest:List Oper}{o:Oper}{a:Act}{Q:Exit→Act→World→Prop}(hgd:o.guard=none)(s x:Operand)(t:TypeId) (ho:o.op=.call {callee:=.builtin .append,args:=#[s,x],argTypes:=#[t,t]}) (base:Nat) (e:TypeId) (z:Value) (bytes:Nat) (ht:P.underlying t=some (.slice e)) (hinfo:(P.info? e).map (fun i=>(i.zero,i.size,i.bytes))=some (some z,Rep.size α,bytes)) (hzs:z.cells.size=Rep.size α) (hsz:0<Rep.size α) (v:Value) (l:List α) (hs:a.eval s=v) (hown:Own w base e v l) (A:Option Addr) (c n:Nat) (m:List α) (hx:a.eval x=.slice A n c) (hn:m.length=n) (S:Nat→Prop) (hm:Sl w S A c m) (hS:∀i,S i→i<w.heap.size→some i≠v.ownBlock) (hbytes:(l.length+n)*bytes≤140737488355328) (hml:l.length+n≤9223372036854775807) (hbase:base≤w.heap.size) (h:∀v' w',Own w' base e v' (l++m)→w.grownBy w' v.ownBlock→(v'.ownBlock=v.ownBlock∨v'.ownBlock=some w.heap.size)→wpList P ops Q rest (a.put o.dst v') w'):wpList P ops Q (o::rest) a w:=
 wpList_plain hgd fun _ hK=>wp_cat w s x t ho base e z bytes ht hinfo hzs hsz v l hs hown A c n m hx hn S hm hS hbytes hml hbase fun v' w' h2 h3 h4=>hK _ _ (h v' w' h2 h3 h4)
theorem Own.made (w:World)(base:Nat)(e:TypeId)(hb:base≤w.heap.size):Own (w.alloc (.cells #[] e)) base e (.slice (some ⟨w.heap.size,0,none⟩) 0 0) ([]:List α):=
 ⟨[],World.ownsRow_made w #[] 0 hb (by simp[maxLen]) (by simp),by simp,fun i h=>absurd h (by simp)⟩
theorem Own.lit (w:World)(base:Nat)(e:TypeId)(cs:Array Value)(l:List α)(hb:base≤w.heap.size)(hm:l.length≤maxLen)(hs:cs.size=l.length*Rep.size α)(h1:∀u∈cs.toList,u.oneCell'=true) (hr:∀i,(h:i<l.length)→Rep.R (w.alloc (.cells cs e)) (fun b=>b≠w.heap.size) ((cs.toList.drop (i*Rep.size α)).take (Rep.size α)) l[i]):
 Own (w.alloc (.cells cs e)) base e (.slice (some ⟨w.heap.size,0,none⟩) l.length l.length) l:=
 ⟨cs.toList,World.ownsRow_lit w cs l.length hb hm hs,h1,fun i h=>Rep.mono (hr i h) (fun b hb _=>by simpa[Value.ownBlock] using hb)⟩
theorem QaE {B:Nat}{w0 w1 w2:World}{e:TypeId}{v:Value}{l:List α}(hb:Below B w0 w1)(hown:Own w1 B e v l)(hB:B≤w1.heap.size)(hg:w1.grownBy w2 v.ownBlock):Below B w0 w2:=
 hb.grown hg hB (fun k hk=>(hown.lt k hk).1)
end
def I64 (n:Int):Prop:= -9223372036854775808≤n∧n≤9223372036854775807
def wTab:List Int:=[4,6,8,8,12,10,4,6,6,8,8,4,6,4,6,8,8,8,8,8,8,8,8,8,8,4,4,8,8,8,8,12,10,10,10,10,10,10,10,10,6,10,10,10,12,10,10,10,10,10,10,10,10,10,12,10,10,10,0,6,0,8,8,4,8,8,8,8,8,6,8,8,4,4,8,4,12,8,8,8,8,6,8,6,8,8,12,8,8,8,6,4,6,8]
theorem gW:Tryd.prog.globalNamed "rollbook/glyph.widths" =some 0:=by kernel_rfl
def gw (c:Nat):Int:=if c<33 then 0 else wTab.getD (c-33) 0
theorem gw_bd:∀c,c<256→0≤gw c∧gw c≤12:=by decide +kernel
theorem gw_pos:∀c,c<256→gw c=0∨(4≤gw c∧gw c%2=0):=by decide +kernel
theorem gw_lo:∀c,c<33→gw c=0:=by decide +kernel
theorem gw_hi:∀c,c<256→127≤c→gw c=0:=by decide +kernel
def Laid (w:World):Prop:=Lib.TabIs Tryd.prog w "rollbook/glyph.widths" .u8 wTab
theorem Laid.cell {w:World}(h:Laid w)(d:Nat)(hd:d<94):w.cell? ⟨0,d,none⟩=some (.int .u8 (gw (d+33))):=by
 have:=Lib.TabIs.cell h gW d hd;rw[this];unfold gw;rw[if_neg (by omega),Nat.add_sub_cancel]
theorem TabIs_keep {n:String}{g:Nat}{k:IntKind}{zs:List Int}{w w':World}(hg:Tryd.prog.globalNamed n=some g)(h:Lib.TabIs Tryd.prog w n k zs)(hb:Below w.heap.size w w'):Lib.TabIs Tryd.prog w' n k zs:=by
 unfold Lib.TabIs World.var? at h ⊢;rw[hg] at h ⊢;simp only[Option.bind_some] at h ⊢;have hlt:g<w.heap.size:=by
  rcases Nat.lt_or_ge g w.heap.size with h'|h'
  ·exact h'
  ·rw[Array.getElem?_eq_none h'] at h;cases h
 rw[hb.block g hlt];exact h
theorem Laid.to {w w':World}(h:Laid w)(hb:Below w.heap.size w w'):Laid w':=TabIs_keep gW h hb
def sumW:List UInt8→Int
 |[]=>0
 |c::r=>gw c.toNat+sumW r
def okW (l:List UInt8):Bool:=l.all fun c=>gw c.toNat != 0
def QaV (s:ByteArray):Int:=if 40<s.size then 0 else if okW s.data.toList then sumW s.data.toList else 0
def Qa6 (s:ByteArray):Bool:=decide (1≤s.size∧s.size≤40)&&okW s.data.toList
theorem sumW_append (a b:List UInt8):sumW (a++b)=sumW a+sumW b:=by
 induction a with
 |nil=>simp[sumW]
 |cons c r ih=>simp only[List.cons_append,sumW,ih];omega
theorem sumW_bd (l:List UInt8):0≤sumW l∧sumW l≤12*l.length:=by
 induction l with
 |nil=>simp[sumW]
 |cons c r ih=>have:=gw_bd c.toNat c.toNat_lt;simp only[sumW,qC];omega
theorem sumW_pos (l:List UInt8)(h:okW l=true):4*(l.length:Int)≤sumW l:=by
 induction l with
 |nil=>simp[sumW]
 |cons c r ih=>
  unfold okW at h;rw[List.all_cons,Bool.and_eq_true] at h;have h1:=gw_pos c.toNat c.toNat_lt;have h2:gw c.toNat≠0:=bne_iff_ne.1 h.1;have:=ih h.2;simp only[sumW,qC];omega
theorem valid_iff (s:ByteArray):Qa6 s=decide (0<QaV s):=by
 unfold Qa6 QaV;have hl:s.data.toList.length=s.size:=by simp
 by_cases h1:40<s.size
 ·rw[if_pos h1];simp;intro _ h;omega
 ·rw[if_neg h1];cases ho:okW s.data.toList
  ·simp
  ·have:=sumW_pos _ ho;have h2:=sumW_bd s.data.toList;simp only[if_true,Bool.and_true];rw[hl] at this h2;rw[decide_eq_decide];omega
theorem okW_take (s:ByteArray)(k:Nat)(h:k<s.size):okW (s.data.toList.take (k+1))=(okW (s.data.toList.take k)&&(gw s[k].toNat != 0)):=by
 have e:s.data.toList.take (k+1)=s.data.toList.take k++[s[k]]:=by
  rw[qT (by simpa using h)];rfl
 unfold okW;rw[e,List.all_append];simp
theorem sumW_take (s:ByteArray)(k:Nat)(h:k<s.size):sumW (s.data.toList.take (k+1))=sumW (s.data.toList.take k)+gw s[k].toNat:=by
 have e:s.data.toList.take (k+1)=s.data.toList.take k++[s[k]]:=by
  rw[qT (by simpa using h)];rfl
 rw[e,sumW_append];simp[sumW]
theorem okW_not (s:ByteArray)(k:Nat)(h:k<s.size)(h0:gw s[k].toNat=0):okW s.data.toList=false:=by
 unfold okW;rw[List.all_eq_false];exact⟨s[k],by simp[ByteArray.getElem_eq_getElem_data],by simp[h0]⟩
theorem takeAll (s:ByteArray)(k:Nat)(h:s.size≤k):s.data.toList.take k=s.data.toList:=List.take_of_length_le (by simp;exact h)
theorem glyphWidth_any (c:Nat)(hc:c<256)(w:World)(hL:Laid w):
 Calls Tryd.prog 87 #[.int .u8 (c:Int)] w fun e w'=>e=.returned (.int .i64 (gw c))∧w=w':=by
 by_cases h1:c<33
 ·have e:=Lh (gw_lo c h1);have h1':(c:Int)<33:=(by omega);go_enter Tryd.func87,Tryd.ntmps87;go_wp2_with fail;go_ret;exact⟨Qae e.out.symm,rfl⟩
 ·by_cases h2:127≤c
  ·have e:=Lh (gw_hi c hc h2);have h1':¬(c:Int)<33:=(by omega);have h2':(127:Int)≤(c:Int):=(by omega);have h3:(c:Int)≤255:=(by omega);go_enter Tryd.func87,Tryd.ntmps87;go_wp2_with fail;go_ret;exact⟨Qae e.out.symm,rfl⟩
  ·obtain⟨d,rfl⟩:∃d,c=d+33:=⟨c-33,by omega⟩;have hc0:=hL.cell d (by omega);have hb:=gw_bd (d+33) hc;generalize gw (d+33)=g at*;have hd:d<94:=(by omega);have hd2:(d:Int)<94:=(by omega);clear h1 h2 hc;go_enter Tryd.func87,Tryd.ntmps87;go_wp2_with fail;go_ret;exact⟨rfl,rfl⟩
theorem width_any (s:ByteArray)(w:World)(hL:Laid w):
 Calls Tryd.prog 79 #[.string s] w fun e w'=>e=.returned (.int .i64 (QaV s))∧w=w':=by
 have HL:=Lh hL;clear hL;by_cases hbig:40<s.size
 ·have e:=Lh (show QaV s=0 by unfold QaV;rw[if_pos hbig]);go_enter Tryd.func79,Tryd.ntmps79;go_wp2_with fail;go_ret;exact⟨Qae e.out.symm,rfl⟩
 ·have hs:s.size≤40:=by omega
  have hs2:(s.size:Int)≤40:=(by omega);have Hw:=Lh (show QaV s=if okW s.data.toList then sumW s.data.toList else 0 by unfold QaV;rw[if_neg hbig]);clear hbig;go_enter Tryd.func79,Tryd.ntmps79;go_wp2_with fail;go_loop [3,4,5,11] (fun n _ _ i=>∃k:Nat,k≤s.size∧i=.int .i64 k∧n=.int .i64 (sumW (s.data.toList.take k))∧Hid (okW (s.data.toList.take k)=true)) (fun _ _ _ i=>s.size-(intOf i).toNat);(case atStart=>exact⟨0,Nat.zero_le _,rfl,rfl,rfl⟩);case round=>
   obtain⟨k,hk,rfl,rfl,hok⟩:=hrel;have hbd:=sumW_bd (s.data.toList.take k);have hl:(s.data.toList.take k).length≤k:=List.length_take_le _ _;by_cases hlt:k<s.size
   ·have hkl:(k:Int)<(s.size:Int):=by omega
    have hk0:(0:Int)≤(k:Int):=(by omega);have HS:=Lh (sumW_take s k hlt);have HO:=Lh (okW_take s k hlt);have HN:=Lh (okW_not s k hlt);have hg:=gw_bd s[k].toNat s[k].toNat_lt;have HG:=Lh (fun w=>glyphWidth_any s[k].toNat s[k].toNat_lt w);generalize sumW (s.data.toList.take k)=S at*;go_wp2_with fail;refine(HG.out _ HL.out).mono ?_;rintro e w' ⟨rfl,rfl⟩;by_cases h0:gw s[k].toNat=0
    ·have E:=Lh (show QaV s=0 by rw[Hw.out,HN.out h0];rfl);rw[h0];clear h0;go_wp2_with fail;go_ret;exact⟨Qae E.out.symm,rfl⟩
    ·have E:=Lh (show okW (s.data.toList.take (k+1))=true by rw[HO.out,hok.out];simp[h0]);generalize gw s[k].toNat=g at*;have hB:(g==0)=false:=beq_eq_false_iff_ne.2 h0;clear h0;go_wp2_with fail;go_round;(case rel=>exact⟨k+1,by omega,by go_num,by rw[HS.out],E.out⟩);case measure=>simp[intOf];omega
   ·have E:=Lh (show QaV s=sumW (s.data.toList.take k) by rw[Hw.out,takeAll s k (by omega)];rw[if_pos];rw[←takeAll s k (by omega)];exact hok.out);go_wp2_with fail;go_ret;exact⟨Qae E.out.symm,rfl⟩
theorem gvalid_any (s:ByteArray)(w:World)(hL:Laid w):
 Calls Tryd.prog 78 #[.string s] w fun e w'=>e=.returned (.bool (Qa6 s))∧w=w':=by
 have HV:=Lh (valid_iff s);go_enter Tryd.func78,Tryd.ntmps78;go_wp2_with fail;refine(width_any s _ hL).mono ?_;rintro e w' ⟨rfl,rfl⟩;generalize QaV s=q at*;go_wp2_with fail;go_ret;exact⟨Qao HV.out.symm,rfl⟩
end Go.Proofs.YtegaapiocihcpaaDoor
namespace Go.Proofs.YtegaapiocihcpaaDoor
open Go.Shelf
def Qdt:Go.Shelf.Ren:=⟨fun|4=>40|n=>n,fun|22=>36|25=>41|3=>3|4=>4|9=>9|20=>20 |0=>0|n=>n,fun|n=>n⟩
theorem growW:Go.Proofs.Lays8.n4 Tryd.prog Qdt:={
 mixed:=by kernel_rfl
 f4:=⟨Tryd.f40.name,by decide,Tryd.func40.trans (congrArg some (by kernel_rfl))⟩
 t0:=Tryd.underlying0
 a0:=Tryd.isAgg0
 z0:=Tryd.sizeOf0
 v0:=Tryd.zeroValue0
 t3:=Tryd.underlying3
 a3:=Tryd.isAgg3
 z3:=Tryd.sizeOf3
 v3:=Tryd.zeroValue3
 t4:=Tryd.underlying4
 a4:=Tryd.isAgg4
 z4:=Tryd.sizeOf4
 v4:=Tryd.zeroValue4
 t9:=Tryd.underlying9
 a9:=Tryd.isAgg9
 z9:=Tryd.sizeOf9
 v9:=Tryd.zeroValue9
 t20:=Tryd.underlying20
 a20:=Tryd.isAgg20
 z20:=Tryd.sizeOf20
 v20:=Tryd.zeroValue20
 t22:=Tryd.underlying36
 a22:=Tryd.isAgg36
 z22:=Tryd.sizeOf36
 v22:=Tryd.zeroValue36}
end Go.Proofs.YtegaapiocihcpaaDoor
namespace Go.Proofs.YtegaapiocihcpaaDoor
open Go.RowKit
structure Word where
 s:ByteArray
 key:ByteArray
 t:Int
 n:Int
 deriving DecidableEq
def Word.ok (x:Word):Prop:=x.s.size≤maxLen∧x.key.size≤maxLen∧I64 x.t∧I64 x.n
def Word.cells (x:Word):List Value:=[.string x.s,.string x.key,.int .i64 x.t,.int .i64 x.n]
instance:Rep Word where
 size:=4
 R _ _ cs x:=cs=x.cells∧x.ok
 len:=by rintro w S cs s ⟨rfl,_⟩;rfl
 one:=by rintro w S cs s ⟨rfl,_⟩ u hu;simp[Word.cells] at hu;rcases hu with rfl|rfl|rfl|rfl<;>rfl
 keep:=by rintro w w' S cs s h _;exact h
 mono:=by rintro w S S' cs s h _;exact h
theorem Qdw {w:World}{S:Nat→Prop}{A:Option Addr}{c:Nat}{l:List Word}(h:Sl w S A c l){k:Nat}(hk:k<l.length):
 ∃b o,A=some ⟨b,o,none⟩∧S b∧b<w.heap.size∧l[k].ok∧w.cell? ⟨b,o+k*4,none⟩=some (.string l[k].s)∧w.cell? ⟨b,o+k*4+1,none⟩=some (.string l[k].key)∧ w.cell? ⟨b,o+k*4+2,none⟩=some (.int .i64 l[k].t)∧w.cell? ⟨b,o+k*4+3,none⟩=some (.int .i64 l[k].n):=by
 obtain⟨b,o,es,rfl,hb,hlt,⟨rfl,hok⟩,hc⟩:=h.at_ hk;exact⟨b,o,rfl,hb,hlt,hok,hc 0 _ rfl,hc 1 _ rfl,hc 2 _ rfl,hc 3 _ rfl⟩
theorem Qbw {α:Type}[Rep α]{w:World}{S:Nat→Prop}{A:Option Addr}{c:Nat}{l:List (List α)}(h:Sl w S A c l){k:Nat}(hk:k<l.length):
 ∃b o Ap cp,A=some ⟨b,o,none⟩∧S b∧b<w.heap.size∧w.cell? ⟨b,o+k,none⟩=some (.slice Ap l[k].length cp)∧Sl w S Ap cp l[k]:=by
 obtain⟨b,o,es,rfl,hb,hlt,⟨Ap,cp,rfl,hp,_⟩,hc⟩:=h.at_ hk;have:=hc 0 _ rfl;exact⟨b,o,Ap,cp,rfl,hb,hlt,by simpa[Rep.size] using this,hp⟩
theorem QdA:(Tryd.prog.info? 41).map (fun i=>(i.zero,i.size,i.bytes))=some (some (.slice none 0 0),Rep.size (List Word),24):=by kernel_rfl
theorem grow_nil (n:Nat)(w:World)(hn:n≤4194304):
 Calls Tryd.prog 40 #[.slice none 0 0,.int .i64 (n:Int)] w fun e w'=>∃v,e=.returned v∧Own w' w.heap.size 41 v ([]:List (List Word))∧Below w.heap.size w w':=by
 by_cases h0:n=0
 ·subst h0;exact(Any8.slices_Grow_room growW none 0 0 0 w (by omega) (by omega) (by omega) (by omega)).mono fun e w' ⟨he,hw⟩=>⟨_,he,Own.nil _ _ _,by rw[hw];exact Below.refl _ _⟩
 ·obtain⟨i,hi,hz,hz1,hz2⟩:=info_parts QdA;have h1:=grownCap_ge w (0+n) 0 (Qdt.t 25);have h2:=grownCap_le_maxLen w (0+n) 0 (Qdt.t 25) (by unfold maxLen;omega);refine(Any8.slices_Grow_grow growW i (.slice none 0 0) hi hz (by rw[hz1];decide) none 0 0 n [] w (by omega) (by omega) (by rw[hz2];omega) (by omega) (by simp) (fun _=>rfl) (fun a h=>by cases h)).mono ?_;rintro e w' ⟨he,rfl⟩;refine⟨_,he,⟨[],⟨by simp,.inr ⟨w.heap.size,_,_,rfl,Nat.le_refl _,heap_alloc_new w.drew _,by simp,h2,?_,by simp⟩⟩,by simp,fun i h=>absurd h (by simp)⟩,?_⟩
  ·have e:(Value.slice none 0 0).cells.size=1:=rfl;simp only[Array.size_append,size_zeroCells,e,Nat.mul_one];show 0+(0+n-0)+(_-(0+n))=_*1;omega
  ·exact(bR.drew).alloc nL _
def QbR {α:Type}(a b:List α):Nat→List α
 |0=>[]
 |1=>a
 |_=>a++b
theorem concat_any (Q:Nat)(A B:Option Addr)(c d:Nat)(a b:List (List Word))(w:World)(h0:w.cell? ⟨Q,0,none⟩=some (.slice A a.length c))(h1:w.cell? ⟨Q,1,none⟩=some (.slice B b.length d)) (ha:Sl w (fun b=>b<w.heap.size) A c a) (hb:Sl w (fun b=>b<w.heap.size) B d b) (hla:a.length≤1048576) (hlb:b.length≤1048576):
 Calls Tryd.prog 21 #[.slice (some ⟨Q,0,none⟩) 2 2] w fun e w'=>∃v,e=.returned v∧Own w' w.heap.size 41 v (a++b)∧Below w.heap.size w w':=by
 have Ha:=Lh ha;have Hb:=Lh hb;have H0:=Lh h0;have H1:=Lh h1;have hQ:=World.block_lt_of_cell? w _ h0;clear ha hb;go_enter Tryd.func21,Tryd.ntmps21;go_wp2_with fail;go_loop [3,5,11] (fun n _ i=>∃k:Nat,k≤2∧i=.int .i64 k∧n=.int .i64 ((QbR a b k).length:Int)) (fun _ _ i=>2-(intOf i).toNat);(case atStart=>exact⟨0,by omega,rfl,rfl⟩);case round=>
  obtain⟨k,hk,rfl,rfl⟩:=hrel;rcases(show k=0∨k=1∨k=2 by omega) with rfl|rfl|rfl
  ·have e:(QbR a b 0).length=0:=rfl;rw[e];clear e;go_wp2_with fail;go_round;(case rel=>exact⟨1,by omega,rfl,by simp[QbR]⟩);case measure=>simp[intOf]
  ·have e:(QbR a b 1).length=a.length:=rfl;rw[e];clear e;go_wp2_with fail;go_round;(case rel=>exact⟨2,by omega,rfl,by simp[QbR]⟩);case measure=>simp[intOf]
  ·have e:(QbR a b 2).length=a.length+b.length:=by simp[QbR]
   rw[e];clear e h0 h1;go_wp2_with fail;refine(grow_nil (a.length+b.length) w (by omega)).mono ?_;rintro e wG ⟨v,rfl,hownG,hbG⟩;have HbG:=Lh hbG;have HoG:=Lh hownG;clear hbG hownG;go_wp2_with fail;go_loopw [6,8,27] (fun v _ i wr=>∃k:Nat,k≤2∧i=.int .i64 k∧Own wr w.heap.size 41 v (QbR a b k)∧Below w.heap.size w wr) (fun _ _ i _=>2-(intOf i).toNat);(case atStart=>exact⟨0,by omega,rfl,HoG.out,HbG.out⟩);case round=>
    obtain⟨k,hk,rfl,hown,hb3⟩:=hrel;rcases(show k=0∨k=1∨k=2 by omega) with rfl|rfl|rfl
    ·have hown:Own wr w.heap.size 41 _ ([]:List (List Word)):=hown;obtain⟨A2,c2,rfl,_⟩:=hown.sl;have hc:=(hb3.cell (p:=⟨Q,0,none⟩) hQ).trans H0.out;have hz3:=hb3.size;go_wp2_with (at_builtin;refine QaF (α:=List Word) _ rfl (.tmp 31) (.tmp 32) 36 rfl w.heap.size 41 (.slice none 0 0) 24 Tryd.underlying36 QdA rfl (by decide) _ [] rfl hown A c a.length a rfl rfl (fun b=>b<w.heap.size) (Ha.out.keep (Kept.all hb3) hz3) (by intro i (hi:i<w.heap.size) _ e;have:=(hown.lt i e.symm).1;omega) (by first|omega|(simp;done)|(simp;omega)) (by first|omega|(simp;done)|(simp;omega)) (by first|omega|(simp;done)|(simp;omega)) ?_;intro v2 w2 hown2 hg2 hat2);go_roundw;(case rel=>exact⟨1,by omega,rfl,by rw[List.nil_append] at hown2;exact hown2,QaE hb3 hown hz3 hg2⟩);case measure=>simp[intOf]
    ·have hown:Own wr w.heap.size 41 _ (a:List (List Word)):=hown;obtain⟨A2,c2,rfl,_⟩:=hown.sl;have hc:=(hb3.cell (p:=⟨Q,1,none⟩) hQ).trans H1.out;have hz3:=hb3.size;go_wp2_with (at_builtin;refine QaF (α:=List Word) _ rfl (.tmp 31) (.tmp 32) 36 rfl w.heap.size 41 (.slice none 0 0) 24 Tryd.underlying36 QdA rfl (by decide) _ a rfl hown B d b.length b rfl rfl (fun b=>b<w.heap.size) (Hb.out.keep (Kept.all hb3) hz3) (by intro i (hi:i<w.heap.size) _ e;have:=(hown.lt i e.symm).1;omega) (by first|omega|(simp;done)|(simp;omega)) (by first|omega|(simp;done)|(simp;omega)) (by first|omega|(simp;done)|(simp;omega)) ?_;intro v2 w2 hown2 hg2 hat2);go_roundw;(case rel=>exact⟨2,by omega,rfl,hown2,QaE hb3 hown hz3 hg2⟩);case measure=>simp[intOf]
    ·go_wp2_with fail;go_ret;exact⟨_,rfl,hown,hb3⟩
structure Raw where
 v:Value
 one:v.oneCell'=true
instance:Rep Raw where
 size:=1
 R _ _ cs x:=cs=[x.v]
 len:=by rintro w S cs s rfl;rfl
 one:=by rintro w S cs s rfl u hu;simp at hu;subst hu;exact s.one
 keep:=by rintro w w' S cs s h _;exact h
 mono:=by rintro w S S' cs s h _;exact h
class Flat (α:Type) [Rep α]:Prop where
 flat:∀{w w':World} {S S':Nat→Prop} {cs:List Value} {a:α},Rep.R w S cs a→Rep.R w' S' cs a
instance:Flat Raw:=⟨fun h=>h⟩
instance:Flat Word:=⟨fun h=>h⟩
theorem Own.at_blocks {α:Type}[Rep α][Flat α]{w w':World}{base:Nat}{e:TypeId}{v:Value}{l:List α}(h:Own w base e v l)(hk:∀g,g<w.heap.size→v.ownBlock=some g→w'.heap[g]? =w.heap[g]?):Own w' base e v l:=by
 obtain⟨xs,hx,ho,hr⟩:=h;refine⟨xs,⟨hx.1,?_⟩,ho,fun i hi=>Flat.flat (hr i hi)⟩;rcases hx.2 with hn|⟨g,cap,cur,hv,hb,hg,rest⟩
 ·exact .inl hn
 ·exact .inr ⟨g,cap,cur,hv,hb,(hk g (Array.getElem?_eq_some_iff.1 hg).1 (by rw[hv];rfl)).trans hg,rest⟩
structure Nest (w:World)(B:Nat→Prop)(te ti:TypeId)(v:Value)(us:List Raw)(ls:List (List Word)):Prop where
 own:Own w 0 te v us
 len:us.length=ls.length
 inn:∀i (h:i<us.length) (h':i<ls.length),Own w 0 ti us[i].v ls[i]
 mv:∀g,v.ownBlock=some g→B g
 mi:∀i (h:i<us.length) g,us[i].v.ownBlock=some g→B g
 ne:∀i (h:i<us.length) g,us[i].v.ownBlock=some g→v.ownBlock≠some g
 dis:∀i j (hi:i<us.length) (hj:j<us.length) g,i≠j→us[i].v.ownBlock=some g→us[j].v.ownBlock≠some g
section
variable {w w':World} {B B':Nat→Prop} {te ti:TypeId} {v v':Value} {us:List Raw} {ls:List (List Word)}
theorem Nest.nil (w:World)(B:Nat→Prop)(te ti:TypeId):Nest w B te ti (.slice none 0 0) [] []:=
 ⟨Own.nil _ _ _,rfl,fun i h=>absurd h (by simp),fun g h=>(by cases h),fun i h=>absurd h (by simp),fun i h=>absurd h (by simp),fun i j h=>absurd h (by simp)⟩
theorem Nest.kept (h:Nest w B te ti v us ls)(hk:∀g,g<w.heap.size→B g→w'.heap[g]? =w.heap[g]?):Nest w' B te ti v us ls:=
 ⟨h.own.at_blocks fun g hl hg=>hk g hl (h.mv g hg),h.len,fun i hi hi'=>(h.inn i hi hi').at_blocks fun g hl hg=>hk g hl (h.mi i hi g hg),h.mv,h.mi,h.ne,h.dis⟩
theorem Nest.below (h:Nest w B te ti v us ls)(hb:Below w.heap.size w w'):Nest w' B te ti v us ls:=h.kept fun g hl _=>hb.block g hl
theorem Nest.mono (h:Nest w B te ti v us ls)(hB:∀g,g<w.heap.size→B g→B' g):Nest w B' te ti v us ls:=
 ⟨h.own,h.len,h.inn,fun g hg=>hB g (h.own.lt g hg).2 (h.mv g hg),fun i hi g hg=>hB g ((h.inn i hi (h.len▸hi)).lt g hg).2 (h.mi i hi g hg),h.ne,h.dis⟩
theorem Nest.push {u:Raw}{l:List Word}{H:Nat}(h:Nest w B te ti v us ls)(hl:Own w 0 ti u.v l)(hu:∀g,u.v.ownBlock=some g→¬B g∧B' g) (hk:∀b,b<w.heap.size→some b≠v.ownBlock→w'.heap[b]? =w.heap[b]?) (hown:Own w' 0 te v' (us++[u])) (hat:v'.ownBlock=v.ownBlock∨v'.ownBlock=some H) (hH:w.heap.size≤H) (hB:∀g,B g→B' g) (hBH:B' H):Nest w' B' te ti v' (us++[u]) (ls++[l]):=by
 have hne:∀g,u.v.ownBlock=some g→v.ownBlock≠some g:=fun g hg e=>(hu g hg).1 (h.mv g e)
 have hlt:∀i (hi:i<us.length) g,us[i].v.ownBlock=some g→g<w.heap.size:=fun i hi g hg=>((h.inn i hi (h.len▸hi)).lt g hg).2
 have hlu:∀g,u.v.ownBlock=some g→g<w.heap.size:=fun g hg=>(hl.lt g hg).2
 have hv':∀g,g<w.heap.size→v.ownBlock≠some g→v'.ownBlock≠some g:=fun g hg hn=>by
  rcases hat with e|e
  ·rw[e];exact hn
  ·rw[e];intro e2;injection e2 with e2;omega
 have keep:∀{x:Value} {m:List Word},Own w 0 ti x m→(∀g,x.ownBlock=some g→v.ownBlock≠some g)→Own w' 0 ti x m:=fun ho hn=>ho.at_blocks fun g hg hx=>hk g hg fun e=>hn g hx e.symm
 refine⟨hown,by simp[h.len],fun i hi hi'=>?_,fun g hg=>?_,fun i hi g hg=>?_,fun i hi g hg=>?_,fun i j hi hj g hij hg=>?_⟩
 ·by_cases hlt':i<us.length
  ·rw[List.getElem_append_left hlt',List.getElem_append_left (h.len▸hlt')];exact keep (h.inn i hlt' (h.len▸hlt')) (h.ne i hlt')
  ·obtain rfl:i=us.length:=by simp at hi;omega
   have e1:(us++[u])[us.length]=u:=(by simp);have e2:(ls++[l])[us.length]=l:=(by simp[h.len]);rw[e1,e2];exact keep hl hne
 ·rcases hat with e|e
  ·exact hB g (h.mv g (e▸hg))
  ·rw[e] at hg;injection hg with hg;exact hg▸hBH
 ·by_cases hlt':i<us.length
  ·rw[List.getElem_append_left hlt'] at hg;exact hB g (h.mi i hlt' g hg)
  ·obtain rfl:i=us.length:=by simp at hi;omega
   rw[show(us++[u])[us.length]=u by simp] at hg;exact(hu g hg).2
 ·by_cases hlt':i<us.length
  ·rw[List.getElem_append_left hlt'] at hg;exact hv' g (hlt i hlt' g hg) (h.ne i hlt' g hg)
  ·obtain rfl:i=us.length:=by simp at hi;omega
   rw[show(us++[u])[us.length]=u by simp] at hg;exact hv' g (hlu g hg) (hne g hg)
 ·by_cases hli:i<us.length
  ·rw[List.getElem_append_left hli] at hg;by_cases hlj:j<us.length
   ·rw[List.getElem_append_left hlj];exact h.dis i j hli hlj g hij hg
   ·obtain rfl:j=us.length:=by simp at hj;omega
    rw[show(us++[u])[us.length]=u by simp];intro e;exact(hu g e).1 (h.mi i hli g hg)
  ·obtain rfl:i=us.length:=by simp at hi;omega
   rw[show(us++[u])[us.length]=u by simp] at hg;have hlj:j<us.length:=(by simp at hj;omega);rw[List.getElem_append_left hlj];intro e;exact(hu g hg).1 (h.mi j hlj g e)
theorem Nest.inner (h:Nest w B te ti v us ls)(i:Nat)(hi:i<us.length){l:List Word}(hk:∀b,b<w.heap.size→some b≠us[i].v.ownBlock→w'.heap[b]? =w.heap[b]?)(hown:Own w' 0 ti us[i].v l):Nest w' B te ti v us (ls.set i l):=by
 refine⟨h.own.at_blocks fun g hl hg=>hk g hl fun e=>h.ne i hi g e.symm hg,by rw[List.length_set];exact h.len,fun j hj hj'=>?_,h.mv,h.mi,h.ne,h.dis⟩;by_cases hij:i=j
 ·subst hij;rw[List.getElem_set_self];exact hown
 ·rw[List.getElem_set_ne hij];rw[List.length_set] at hj';exact(h.inn j hj hj').at_blocks fun g hl hg=>hk g hl fun e=>h.dis i j hi hj g hij e.symm hg
theorem Nest.sl (h:Nest w B te ti v us ls)(hlen:∀l∈ls,l.length<9223372036854775808):∃A c,v=.slice A ls.length c∧Sl w (fun b=>b<w.heap.size) A c ls:=by
 obtain⟨A,c,rfl,hs⟩:=h.own.sl;refine⟨A,c,by rw[h.len],by rw[←h.len];exact hs.1,hs.2.1,fun hn=>?_⟩;obtain⟨b,o,rfl,hb,hlt,hx⟩:=hs.2.2 (by rw[h.len];exact hn);refine⟨b,o,rfl,hb,hlt,fun i hi=>?_⟩;have hi':i<us.length:=by rw[h.len];exact hi
 obtain⟨es,hr,hc⟩:=hx i hi';obtain⟨A1,c1,e1,hs1⟩:=(h.inn i hi' hi).sl;have hr':es=[us[i].v]:=hr;exact⟨es,⟨A1,c1,by rw[hr',e1],hs1,hlen _ (List.getElem_mem hi)⟩,hc⟩
theorem Nest.at_ (h:Nest w B te ti v us ls){k:Nat}(hk:k<ls.length):
 ∃g cap,∃hu:k<us.length,v=.slice (some ⟨g,0,none⟩) ls.length cap∧g<w.heap.size∧B g∧ls.length≤cap∧w.cell? ⟨g,k,none⟩=some us[k].v∧(∀o,w.frozen? ⟨g,o,none⟩=false):=by
 have hu:k<us.length:=by rw[h.len];exact hk
 obtain⟨g,cap,es,e,_,hlt,hc,hr,hcell,hfz⟩:=h.own.at_ hu;have hr':es=[us[k].v]:=hr;subst hr';have:=hcell 0 _ rfl;simp only[Rep.size,Nat.mul_one,Nat.add_zero] at this;refine⟨g,cap,hu,by rw[←h.len];exact e,hlt,h.mv g (by rw[e];rfl),by rw[←h.len];exact hc,this,hfz⟩
end
theorem Qad (w:World)(Y o:Nat)(u:Value){g:Nat}(h:g≠Y):(w.setCell ⟨Y,o,none⟩ u).heap[g]? =w.heap[g]? :=by
 simp only[World.setCell,Array.getElem?_modify];rw[if_neg (fun e=>h e.symm)]
theorem Qb8 (w:World)(Y o:Nat)(u:Value){cs:Array Value}{t:TypeId}{fr:Nat × Nat}(h:w.heap[Y]? =some (.cells cs t fr)):(w.setCell ⟨Y,o,none⟩ u).heap[Y]? =some (.cells (cs.setIfInBounds o u) t fr):=by
 simp only[World.setCell,Array.getElem?_modify,if_true,h,Option.map_some,Option.isSome_none,Bool.false_eq_true,if_false]
structure TBox (w:World)(Y:Nat)(a b:Value):Prop where
 at_:w.heap[Y]? =some (.cells #[a,b] 38 (0,0))
section
variable {w w':World} {Y:Nat} {a b:Value}
theorem TBox.c0 (h:TBox w Y a b):w.cell? ⟨Y,0,none⟩=some a:=cell_of_row w _ 0 _ _ _ h.at_
theorem TBox.c1 (h:TBox w Y a b):w.cell? ⟨Y,1,none⟩=some b:=cell_of_row w _ 1 _ _ _ h.at_
theorem TBox.fz (h:TBox w Y a b)(o:Nat):w.frozen? ⟨Y,o,none⟩=false:=by simp[World.frozen?,h.at_]
theorem TBox.lt (h:TBox w Y a b):Y<w.heap.size:=(Array.getElem?_eq_some_iff.1 h.at_).1
theorem TBox.kept (h:TBox w Y a b)(hk:w'.heap[Y]? =w.heap[Y]?):TBox w' Y a b:=⟨hk.trans h.at_⟩
theorem TBox.below (h:TBox w Y a b)(hb:Below w.heap.size w w'):TBox w' Y a b:=h.kept (hb.block Y h.lt)
theorem TBox.set0 (h:TBox w Y a b)(u:Value):TBox (w.setCell ⟨Y,0,none⟩ u) Y u b:=⟨Qb8 w Y 0 u h.at_⟩
theorem TBox.set1 (h:TBox w Y a b)(u:Value):TBox (w.setCell ⟨Y,1,none⟩ u) Y a u:=⟨Qb8 w Y 1 u h.at_⟩
theorem TBox.other (h:TBox w Y a b){X o:Nat}(hX:Y≠X)(u:Value):TBox (w.setCell ⟨X,o,none⟩ u) Y a b:=h.kept (Qad w X o u hX)
end
instance:Rep Int where
 size:=1
 R _ _ cs n:=cs=[.int .i64 n]∧I64 n
 len:=by rintro w S cs s ⟨rfl,_⟩;rfl
 one:=by rintro w S cs s ⟨rfl,_⟩ u hu;simp at hu;rcases hu with rfl;rfl
 keep:=by rintro w w' S cs s h _;exact h
 mono:=by rintro w S S' cs s h _;exact h
theorem QbK {w:World}{S:Nat→Prop}{A:Option Addr}{c:Nat}{l:List Int}(h:Sl w S A c l){k:Nat}(hk:k<l.length):
 ∃b o,A=some ⟨b,o,none⟩∧S b∧b<w.heap.size∧I64 l[k]∧w.cell? ⟨b,o+k,none⟩=some (.int .i64 l[k]):=by
 obtain⟨b,o,es,rfl,hb,hlt,⟨rfl,hok⟩,hc⟩:=h.at_ hk;have:=hc 0 _ rfl;exact⟨b,o,rfl,hb,hlt,hok,by simpa[Rep.size] using this⟩
section
variable {P:Program} {ops:Array Oper} {Q:Exit→Act→World→Prop} {md:Region.Mode} {S:World→Prop} {hd:Nat→Bool}
def wpAnyD (P:Program)(md:Region.Mode)(ops:Array Oper)(Q:Exit→Act→World→Prop)(S:World→Prop)(hd:Nat→Bool):Nat→Array Bool→Act→World→Prop
 |0,listed,a,w=>Region.ready md ops listed=[]∧Q .normal a w
 |fuel+1,listed,a,w=>
  (Region.ready md ops listed=[]→Q .normal a w)∧
  ∀i∈Region.ready md ops listed,wpOp P ops Q i (fun a' w'=>(hd i=true→S w')∧wpAnyD P md ops Q S hd fuel (listed.setIfInBounds i true) a' w') a w
theorem wpAny_of_D:∀(fuel:Nat) (listed:Array Bool) (a:Act) (w:World),wpAnyD P md ops Q S hd fuel listed a w→wpAny P md ops Q fuel listed a w
 |0,_,_,_,h=>h
 |fuel+1,_,_,_,h=>⟨h.1,fun i hi=>wpOp_mono (fun a' w' h'=>wpAny_of_D fuel _ a' w' h'.2) (h.2 i hi)⟩
theorem wpAnyD_one {i:Nat}{oi:Oper}{fuel:Nat}{listed:Array Bool}{a:Act}{w:World}(hi:ops[i]? =some oi)(hr:Region.ready md ops listed=[i])(hw:Region.wanted oi (yielded ops a.tmps)=true) (h:∀K:Act→World→Prop,(∀a' w',(hd i=true→S w')→wpAnyD P md ops Q S hd fuel (listed.setIfInBounds i true) a' w'→K a' w')→oi.wp P a w K Q):wpAnyD P md ops Q S hd (fuel+1) listed a w:=by
 refine⟨fun h0=>(by rw[hr] at h0;cases h0),fun j hj=>?_⟩;rw[hr,List.mem_singleton] at hj;subst hj;unfold wpOp;simp only[hi,hw,if_true];exact .inl (h _ fun a' w' hs hn=>⟨hs,hn⟩)
theorem wpAnyD_two {i j:Nat}{oi oj:Oper}{fuel:Nat}{listed:Array Bool}{a:Act}{w:World}(hr:Region.ready md ops listed=[i,j])(hi:ops[i]? =some oi)(hj:ops[j]? =some oj)(hwi:Region.wanted oi (yielded ops a.tmps)=true)(hwj:Region.wanted oj (yielded ops a.tmps)=true) (h1:∀K:Act→World→Prop,(∀a' w',(hd i=true→S w')→wpAnyD P md ops Q S hd fuel (listed.setIfInBounds i true) a' w'→K a' w')→oi.wp P a w K Q) (h2:∀K:Act→World→Prop,(∀a' w',(hd j=true→S w')→wpAnyD P md ops Q S hd fuel (listed.setIfInBounds j true) a' w'→K a' w')→oj.wp P a w K Q):wpAnyD P md ops Q S hd (fuel+1) listed a w:=by
 refine⟨fun h0=>(by rw[hr] at h0;cases h0),fun k hk=>?_⟩;rw[hr] at hk;rcases List.mem_cons.1 hk with rfl|hk
 ·unfold wpOp;simp only[hi,hwi,if_true];exact .inl (h1 _ fun a' w' hs hn=>⟨hs,hn⟩)
 ·rw[List.mem_singleton] at hk;subst hk;unfold wpOp;simp only[hj,hwj,if_true];exact .inl (h2 _ fun a' w' hs hn=>⟨hs,hn⟩)
theorem Qam {listed:Array Bool}{a:Act}{w:World}(hr:Region.ready md ops listed=[])(h:Q .normal a w):∀fuel,wpAnyD P md ops Q S hd fuel listed a w
 |0=>⟨hr,h⟩
 |_+1=>⟨fun _=>h,by rw[hr];simp⟩
theorem Qay (S:World→Prop)(hd:Nat→Bool){id:Nat}{a:Act}{w:World}(hm:P.follows .mixedOrders=true) (h:wpAnyD P .any ops Q S hd ops.size (Array.replicate ops.size false) a w.drew):(Code.region id ops true).wp P Q a w:=
 wp_region_any hm (wpAny_of_D _ _ _ _ h)
theorem tD (i:Nat)(oi:Oper){fuel:Nat}{listed:Array Bool}{a:Act}{w:World}(hi:ops[i]? =some oi) (h:∀K:Act→World→Prop,(∀a' w',(hd i=true→S w')→wpAnyD P md ops Q S hd fuel (listed.setIfInBounds i true) a' w'→K a' w')→oi.wp P a w K Q) (hr:Region.ready md ops listed=[i]:=by kernel_rfl) (hw:Region.wanted oi (yielded ops a.tmps)=true:=by rfl):wpAnyD P md ops Q S hd (fuel+1) listed a w:=wpAnyD_one hi hr hw h
end
section
variable {P:Program} {ops:Array Oper} {Q:Exit→Act→World→Prop} {md:Region.Mode} {S:World→Prop} {hd:Nat→Bool}
def Qbb (md:Region.Mode)(ops:Array Oper)(i:Nat):Nat→Nat→Bool
 |0,_=>false
 |f+1,j=>((ops[j]?).map fun o=>o.after.any fun e=>Region.binds md e&&(e.on==i||Qbb md ops i f e.on)).getD false
def Closed (md:Region.Mode)(ops:Array Oper)(listed:Array Bool):Prop:=∀j oj,ops[j]? =some oj→listed.getD j false=true→∀e∈oj.after,Region.binds md e=true→listed.getD e.on false=true
theorem QcP {j:Nat}{listed:Array Bool}(h:j∈Region.ready md ops listed):∃oj,ops[j]? =some oj∧∀e∈oj.after,Region.binds md e=true→listed.getD e.on false=true:=by
 obtain⟨_,oj,hoj,hall⟩:=mem_ready.1 h;exact⟨oj,hoj,fun e he hb=>by simpa using hall e he hb⟩
theorem Qbf {i:Nat}{listed:Array Bool}(hcl:Closed md ops listed):∀(f j:Nat),Qbb md ops i f j=true→(∃oj,ops[j]? =some oj∧∀e∈oj.after,Region.binds md e=true→listed.getD e.on false=true)→listed.getD i false=true
 |0,_,h,_=>by simp[Qbb] at h
 |f+1,j,h,⟨oj,hoj,hall⟩=>by
  rw[Qbb,hoj] at h;simp only[Option.map_some,Option.getD_some,Array.any_eq_true'] at h;obtain⟨e,he,h⟩:=h;rw[Bool.and_eq_true,Bool.or_eq_true,beq_iff_eq] at h;have hl:=hall e he h.1;rcases h.2 with h2|h2
  ·rw[←h2];exact hl
  ·have hlt:∃ok,ops[e.on]? =some ok:=by
    match f,h2 with
    |f+1,h2=>
     rw[Qbb] at h2;cases ho:ops[e.on]? with
     |none=>rw[ho] at h2;simp at h2
     |some ok=>exact⟨ok,rfl⟩
   obtain⟨ok,hok⟩:=hlt;exact Qbf hcl f e.on h2 ⟨ok,hok,hcl e.on ok hok hl⟩
theorem Closed.set {listed:Array Bool}(h:Closed md ops listed){j:Nat}(hj:j∈Region.ready md ops listed):Closed md ops (listed.setIfInBounds j true):=by
 intro k ok hok hl e he hb;by_cases hkj:j=k
 ·subst hkj;obtain⟨oj,hoj,hall⟩:=QcP hj;rw[hok] at hoj;cases hoj;exact Go.getD_set_true (hall e he hb)
 ·rw[Go.getD_set_ne false hkj] at hl;exact Go.getD_set_true (h k ok hok hl e he hb)
theorem wpAnyE_first {i:Nat}{oi:Oper}{v:Value}(hi:ops[i]? =some oi)(hsel:∀(j:Nat) (o:Oper) cs b,ops[j]? =some o→o.op≠.select cs b) (hcov:∀(j:Nat) (oj:Oper),ops[j]? =some oj→j≠i→hd j=false→∃f,Qbb md ops i f j=true) (hQ:∀c a w,Q (.panic c) (a.put oi.dst v) w→Q (.panic c) a w):
 ∀(fuel:Nat) (listed:Array Bool) (a:Act) (w:World),Closed md ops listed→ (∀j oj,ops[j]? =some oj→j≠i→listed.getD j true=false→(∀e∈oj.after,Region.binds md e=true→e.on≠i)→oi.apart ops oj=true)→ i∈Region.ready md ops listed→YieldsIf P ops S oi v a→S w→ wpAnyD P md ops Q S hd fuel (listed.setIfInBounds i true) (a.put oi.dst v) w→wpAnyD P md ops Q S hd (fuel+1) listed a w:=by
 intro fuel;induction fuel with
 |zero=>
  intro listed a w _ _ hr hy hS H;refine⟨fun h=>(by rw[h] at hr;cases hr),fun j hj=>?_⟩;by_cases hji:j=i
  ·subst hji;exact hy.wpOp hi hS ⟨fun _=>hS,H⟩
  ·have:=ready_mono hj hji;rw[H.1] at this;cases this
 |succ fuel ih=>
  intro listed a w hcl hfree hr hy hS H;refine⟨fun h=>(by rw[h] at hr;cases hr),fun j hj=>?_⟩;by_cases hji:j=i
  ·subst hji;exact hy.wpOp hi hS ⟨fun _=>hS,H⟩
  ·have h1:=H.2 j (ready_mono hj hji);obtain⟨hjun,oj,hoj,hall⟩:=mem_ready.1 hj
   have hnot:∀e∈oj.after,Region.binds md e=true→e.on≠i:=fun e he hb heq=>by
    have h1:=hall e he hb;have h0:=(mem_ready.1 hr).1;rw[heq] at h1;rcases Nat.lt_or_ge i listed.size with h'|h'
    ·simp[h'] at h0 h1;rw[h0] at h1;cases h1
    ·simp[Array.getElem?_eq_none h'] at h1
   have hhd:hd j=true:=by
    cases hh:hd j with
    |true=>rfl
    |false=>
     obtain⟨f,hf⟩:=hcov j oj hoj hji hh;have hl:=Qbf hcl f j hf (QcP hj);have h0:=(mem_ready.1 hr).1;rcases Nat.lt_or_ge i listed.size with h'|h'
     ·simp[h'] at h0 hl;rw[h0] at hl;cases hl
     ·simp[Array.getElem?_eq_none h'] at hl
   have h2:=wpOp_putIf hoj (hfree j oj hoj hji hjun hnot) (fun cs b=>hsel i oi cs b hi) (fun cs b=>hsel j oj cs b hoj) hQ hy h1;have hfree':∀k ok,ops[k]? =some ok→k≠i→(listed.setIfInBounds j true).getD k true=false→ (∀e∈ok.after,Region.binds md e=true→e.on≠i)→oi.apart ops ok=true:=fun k ok hk hki hun hno=>by
    refine hfree k ok hk hki ?_ hno;by_cases hjk:j=k
    ·subst hjk;exact hjun
    ·rw[Go.getD_set_ne true hjk] at hun;exact hun
   refine wpOp_mono (fun a' w' h3=>⟨fun _=>h3.2.1 hhd,ih (listed.setIfInBounds j true) a' w' (hcl.set hj) hfree' (ready_mono hr (Ne.symm hji)) h3.1 (h3.2.1 hhd) ?_⟩) h2;rw[Array.setIfInBounds_comm _ _ hji];exact h3.2.2
def coversE (md:Region.Mode)(ops:Array Oper)(hd:Nat→Bool)(i:Nat):Bool:=
 (List.range ops.size).all fun j=>j==i||hd j||Qbb md ops i ops.size j
theorem coversE_spec {i:Nat}(h:coversE md ops hd i=true):∀(j:Nat) (oj:Oper),ops[j]? =some oj→j≠i→hd j=false→∃f,Qbb md ops i f j=true:=by
 intro j oj hj hji hh;have hlt:j<ops.size:=(Array.getElem?_eq_some_iff.1 hj).1;have:=(List.all_eq_true.1 h) j (List.mem_range.2 hlt);rw[hh] at this;simp only[Bool.or_false,Bool.or_eq_true,beq_iff_eq] at this;rcases this with h|h
 ·exact absurd h hji
 ·exact⟨_,h⟩
def closedB (md:Region.Mode)(ops:Array Oper)(listed:Array Bool):Bool:=
 (List.range ops.size).all fun j=> !(listed.getD j false)||((ops[j]?).map fun o=>o.after.all fun e=> !(Region.binds md e)||listed.getD e.on false).getD true
theorem closedB_spec {listed:Array Bool}(h:closedB md ops listed=true):Closed md ops listed:=by
 intro j oj hj hl e he hb;have hlt:j<ops.size:=(Array.getElem?_eq_some_iff.1 hj).1;have:=(List.all_eq_true.1 h) j (List.mem_range.2 hlt);rw[hj,hl] at this;simp only[Option.map_some,Option.getD_some,Bool.not_true,Bool.false_or,Array.all_eq_true_iff_forall_mem] at this;have h2:=this e he;rw[hb] at h2;simpa using h2
theorem Qak {i:Nat}{oi:Oper}{v:Value}{fuel:Nat}{listed:Array Bool}{a:Act}{w:World}(hi:ops[i]? =some oi) (hs:Region.noSelect ops=true) (hc:coversE md ops hd i=true) (hcl:closedB md ops listed=true) (hf:Region.free md ops listed i=true) (hr:(Region.ready md ops listed).contains i=true) (hQ:∀c a w,Q (.panic c) (a.put oi.dst v) w→Q (.panic c) a w) (hw:Region.wanted oi (yielded ops a.tmps)=true) (hy:∀w,S w→(execOp a.eval oi).run P w=.ok (.value v) w) (hS:S w) (h:wpAnyD P md ops Q S hd fuel (listed.setIfInBounds i true) (a.put oi.dst v) w):wpAnyD P md ops Q S hd (fuel+1) listed a w:=
 wpAnyE_first hi (Region.noSelect_spec hs) (coversE_spec hc) hQ fuel listed a w (closedB_spec hcl) (Region.free_spec hi hf) (by simpa using hr) (Or.inl ⟨hw,hy⟩) hS h
theorem tE (i:Nat)(oi:Oper)(v:Value){fuel:Nat}{listed:Array Bool}{a:Act}{w:World}(hi:ops[i]? =some oi)(hy:∀w,S w→(execOp a.eval oi).run P w=.ok (.value v) w)(hS:S w) (h:wpAnyD P md ops Q S hd fuel (listed.setIfInBounds i true) (a.put oi.dst v) w) (hb:(Region.noSelect ops&&coversE md ops hd i&&closedB md ops listed&&Region.free md ops listed i&&(Region.ready md ops listed).contains i)=true:=by kernel_rfl) (hw:Region.wanted oi (yielded ops a.tmps)=true:=by rfl) (hQ:∀c a w,Q (.panic c) (a.put oi.dst v) w→Q (.panic c) a w:=by first|exact fun _ _ _ h=>h|exact fun _ _ _ h=>nomatch h.1):wpAnyD P md ops Q S hd (fuel+1) listed a w:=by
 simp only[Bool.and_eq_true] at hb;exact Qak hi hb.1.1.1.1 hb.1.1.1.2 hb.1.1.2 hb.1.2 hb.2 hQ hw hy hS h
end
def plainOp:Op→Bool
 |.move _|.assign _|.pick .. |.alloc _|.box .. |.build .. |.buildSlice .. |.load .. |.binOp .. |.unOp .. |.convert .. |.makeInterface .. |.makeFunc .. |.makeSlice .. |.slice .. |.fieldAddr .. |.field .. |.indexAddr .. |.index .. |.extract .. =>true
 |.call c=>match c.callee with
  |.builtin .append|.builtin .cap|.builtin .copy|.builtin .len|.builtin .max|.builtin .min=>true
  |_=>false
 |_=>false
theorem val_run {P:Program}{w w':World}{s:Sem Value}{n:Next}(h:(do let x ←s;pure (Next.value x):Sem Next).run P w=.ok n w'):∃u,n=.value u:=by
 rw[Sem.run_bind] at h;cases hs:s.run P w with
 |ok v w1=>rw[hs] at h;simp only[Result.andThen_ok,Sem.run_pure] at h;cases h;exact⟨_,rfl⟩
 |halt x w1=>rw[hs] at h;simp only[Result.andThen] at h;cases h
theorem plain_run {P:Program}{ρ:Operand→Value}{o:Oper}(hp:plainOp o.op=true){w w':World}{n:Next}(h:(execOp ρ o).run P w=.ok n w'):∃u,n=.value u:=by
 obtain⟨dst,op,ty,pos,after,guard⟩:=o;cases op<;>first|(exfalso;revert hp;simp[plainOp];done)|skip
 case call c=>
  obtain⟨callee,args,ats⟩:=c;cases callee with
  |builtin b=>
   simp only at hp;simp only[execOp,resolve,Sem.run_bind,Sem.run_pure,Result.andThen_ok,invoke] at h;cases b<;>first|exact val_run h|exact absurd hp (show ¬(false=true) by decide)
  |value f=>exact absurd hp (show ¬(false=true) by decide)
  |invoke r m=>exact absurd hp (show ¬(false=true) by decide)
 case pick c a b=>
  simp only[execOp] at h;rw[Sem.run_bind] at h;cases hs:(asBool (ρ c)).run P w with
  |ok v w1=>rw[hs] at h;simp only[Result.andThen_ok] at h;cases v<;>(simp only[Sem.run_pure] at h;cases h;exact⟨_,rfl⟩)
  |halt x w1=>rw[hs] at h;simp only[Result.andThen] at h;cases h
 all_goals first|exact val_run h|(simp only[execOp,Sem.run_pure] at h;cases h;exact⟨_,rfl⟩)
structure SPR (Rl:World→World→Prop) where
 p:Value→World→Prop
 st:∀v w w',p v w→Rl w w'→p v w'
abbrev Newer:World→World→Prop:=fun w w'=>Below w.heap.size w w'
abbrev SP:=SPR Newer
section
variable {P:Program} {ops:Array Oper} {Q:Exit→Act→World→Prop} {md:Region.Mode} {C:World→Prop} {hs:List Nat} {Rl:World→World→Prop} {Φ:Nat→SPR Rl} {m:Nat}
def Qc7 (G:Nat→World→Prop)(i:Nat)(φ:World→Prop):Nat→World→Prop:=fun k=>if k=i then φ else G k
theorem updG_same (G:Nat→World→Prop)(i:Nat)(φ:World→Prop):Qc7 G i φ i=φ:=if_pos rfl
theorem Qdq {G:Nat→World→Prop}{i k:Nat}{φ:World→Prop}(h:k≠i):Qc7 G i φ k=G k:=if_neg h
theorem updG_comm {G:Nat→World→Prop}{i j:Nat}{φ ψ:World→Prop}(h:i≠j):Qc7 (Qc7 G i φ) j ψ=Qc7 (Qc7 G j ψ) i φ:=by
 funext k;unfold Qc7;by_cases h1:k=j
 ·subst h1;simp[Ne.symm h]
 ·simp[h1]
def RelyA (P:Program)(o:Oper)(a:Act)(w:World)(R:Value→World→Prop):Prop:=∀Q:Exit→Act→World→Prop,o.wp P a w (fun a' w'=>∃v,a'=a.put o.dst v∧R v w') Q
theorem put_df (a:Act)(x:Option Tmp)(v:Value):(a.put x v).defers=a.defers:=by cases x<;>rfl
theorem put_inj {a:Act}{x y:Option Tmp}{v0 u v:Value}(hxy:∀d,x=some d→y≠some d)(h:(a.put x v0).put y u=(a.put x v0).put y v):a.put y u=a.put y v:=by
 cases y with
 |none=>rfl
 |some e=>
  cases x with
  |none=>exact h
  |some d=>
   have hne:d≠e:=fun he=>hxy d rfl (he▸rfl)
   obtain⟨tmps,df⟩:=a;simp only[Act.put,Act.mk.injEq] at h ⊢;refine⟨?_,h.2⟩;apply Array.ext_getElem?;intro i;have h1:=congrArg (fun t:Array Value=>t[i]?) h.1;by_cases hi:e=i
   ·subst hi;simpa[Array.getElem?_setIfInBounds] using h1
   ·rw[Array.getElem?_setIfInBounds_ne hi,Array.getElem?_setIfInBounds_ne hi]
theorem RelyA.unput {o:Oper}{a:Act}{x:Option Tmp}{v0:Value}{w:World}{R:Value→World→Prop}(hs:∀cs b,o.op≠.select cs b)(h1:∀d,x=some d→d∉o.looksAt ops)(h2:∀d,x=some d→o.dst≠some d)(h:RelyA P o (a.put x v0) w R):RelyA P o a w R:=by
 intro Q;have h:=h (fun e a' w'=>Q e a w');unfold Oper.wp at*;rw[execOp_put (ops:=ops) o hs a x v0 h1] at h;generalize (execOp a.eval o).run P w=r at*;cases r with
 |ok n w'=>
  cases n<;>simp only[Oper.upon] at h ⊢;(case value u=>obtain⟨v,e,r⟩:=h;exact⟨v,put_inj h2 e,r⟩);(case skip=>obtain⟨v,e,r⟩:=h;exact⟨v,put_inj h2 e,r⟩);case defer d=>
   obtain⟨v,e,r⟩:=h;have:=congrArg (fun t:Act=>t.defers.length) e;simp only[put_df,qC] at this;omega
  case enter f args=>
   refine Calls.mono h fun e w'' he=>?_
   cases e with
   |returned u=>obtain⟨v,e,r⟩:=he;exact⟨v,put_inj h2 e,r⟩
   |panicked c=>exact he
   |outgrown=>obtain⟨a',w',q⟩:=he;exact⟨a,w',q⟩
  case row row args=>exact Rows.mono h fun u w'' he=>by obtain⟨v,e,r⟩:=he;exact⟨v,put_inj h2 e,r⟩
 |halt x w'=>cases x<;>simp only[Oper.upon] at h ⊢;exact h
def StillA (P:Program)(o:Oper)(a:Act)(C:World→Prop)(v:Value):Prop:=∀w,C w→(execOp a.eval o).run P w=.ok (.value v) w
def FixA (P:Program)(ops:Array Oper)(o:Oper)(a:Act)(C:World→Prop)(v:Value):Prop:=
 (Region.wanted o (yielded ops a.tmps)=true∧StillA P o a C v)∨(Region.wanted o (yielded ops a.tmps)=false∧v=undef)
def busy (ops:Array Oper)(hs:List Nat)(j:Nat)(o:Oper)(a:Act):Bool:=hs.contains j&&Region.wanted o (yielded ops a.tmps)
theorem FixA.uniq {o:Oper}{a:Act}{u v:Value}{w:World}(hw:C w)(h:FixA P ops o a C u)(k:FixA P ops o a C v):u=v:=by
 rcases h with⟨h1,h2⟩|⟨h1,h2⟩<;>rcases k with⟨k1,k2⟩|⟨k1,k2⟩
 ·have:=(h2 w hw).symm.trans (k2 w hw);cases this;rfl
 ·rw[h1] at k1;cases k1
 ·rw[h1] at k1;cases k1
 ·rw[h2,k2]
theorem FixA.same {o:Oper}{a a':Act}{v:Value}(he:execOp a'.eval o=execOp a.eval o)(hw:Region.wanted o (yielded ops a'.tmps)=Region.wanted o (yielded ops a.tmps))(h:FixA P ops o a C v):FixA P ops o a' C v:=by
 unfold FixA StillA at *;rw[he,hw];exact h
def Safe (P:Program)(md:Region.Mode)(ops:Array Oper)(C:World→Prop){Rl:World→World→Prop}(Φ:Nat→SPR Rl)(j:Nat)(o:Oper)(a:Act)(G:Nat→World→Prop):Prop:=
 ∀w,C w→(∀k,Qbb md ops k ops.size j=true→G k w)→RelyA P o a w (fun v w'=>Rl w w'∧(Φ j).p v w')
def Joint (C:World→Prop)(G:Nat→World→Prop)(φ:World→Prop):Prop:=∃w,C w∧(∀k,G k w)∧φ w
def rOp (P:Program)(md:Region.Mode)(ops:Array Oper)(C:World→Prop)(hs:List Nat){Rl:World→World→Prop}(Φ:Nat→SPR Rl)(j:Nat)(K:Act→(Nat→World→Prop)→Prop)(a:Act)(G:Nat→World→Prop):Prop:=
 ∀o,ops[j]? =some o→ (busy ops hs j o a=false→∃v,FixA P ops o a C v∧K (a.put o.dst v) G)∧ (busy ops hs j o a=true→Safe P md ops C Φ j o a G∧∀v,Joint C G ((Φ j).p v)→K (a.put o.dst v) (Qc7 G j ((Φ j).p v)))
def QcK (P:Program)(md:Region.Mode)(ops:Array Oper)(Q:Exit→Act→World→Prop)(C:World→Prop)(hs:List Nat){Rl:World→World→Prop}(Φ:Nat→SPR Rl)(m:Nat):Nat→Array Bool→Act→(Nat→World→Prop)→Prop
 |0,listed,a,G=>∀w,C w→(∀k,G k w)→wpAny P md ops Q 0 listed a w
 |fuel+1,listed,a,G=>
  ((∀k,k<m→listed.getD k false=true)→∀w,C w→(∀k,G k w)→wpAny P md ops Q (fuel+1) listed a w)∧
  (¬(∀k,k<m→listed.getD k false=true)→(Region.ready md ops listed=[]→∀w,C w→(∀k,G k w)→Q .normal a w)∧ ∀j∈Region.ready md ops listed,rOp P md ops C hs Φ j (QcK P md ops Q C hs Φ m fuel (listed.setIfInBounds j true)) a G)
theorem wpOp_of_rOp (hcl:∀w w',C w→Rl w w'→C w'){G:Nat→World→Prop}(hG:∀k w w',G k w→Rl w w'→G k w'){j:Nat}{K:Act→(Nat→World→Prop)→Prop}{K':Act→World→Prop}{a:Act}{w:World} (hj:∃o,ops[j]? =some o) (hC:C w) (hg:∀k,G k w) (h:rOp P md ops C hs Φ j K a G) (hK:∀a' G' w',C w'→(∀k w w',G' k w→Rl w w'→G' k w')→(∀k,G' k w')→K a' G'→K' a' w'):wpOp P ops Q j K' a w:=by
 obtain⟨o,ho⟩:=hj;obtain⟨h1,h2⟩:=h o ho;unfold wpOp;rw[ho];dsimp only;cases hb:busy ops hs j o a with
 |false=>
  obtain⟨v,hf,hk⟩:=h1 hb;rcases hf with⟨hw,hv⟩|⟨hw,rfl⟩
  ·rw[if_pos hw];refine .inl ?_;unfold Oper.wp;rw[hv w hC];exact hK _ _ _ hC hG hg hk
  ·rw[if_neg (by rw[hw];simp)];exact hK _ _ _ hC hG hg hk
 |true=>
  obtain⟨hsafe,hk⟩:=h2 hb;rw[if_pos (by unfold busy at hb;simp only[Bool.and_eq_true] at hb;exact hb.2)];refine .inl (Oper.wp_mono ?_ (hsafe w hC (fun k _=>hg k) Q));rintro a' w' ⟨v,rfl,hbl,hp⟩;have hC':=hcl w w' hC hbl;have hG':∀k,G k w':=fun k=>hG k w w' (hg k) hbl
  refine hK _ _ _ hC' ?_ ?_ (hk v ⟨w',hC',hG',hp⟩)
  ·intro k x x' hx hxb;unfold Qc7 at*;split
   ·rename_i e;rw[if_pos e] at hx;exact(Φ j).st _ _ _ hx hxb
   ·rename_i e;rw[if_neg e] at hx;exact hG k x x' hx hxb
  ·intro k;unfold Qc7;split
   ·exact hp
   ·exact hG' k
theorem wpAny_of_R (hcl:∀w w',C w→Rl w w'→C w'):∀(fuel:Nat) (listed:Array Bool) (a:Act) (G:Nat→World→Prop) (w:World),(∀k w w',G k w→Rl w w'→G k w')→ C w→(∀k,G k w)→QcK P md ops Q C hs Φ m fuel listed a G→wpAny P md ops Q fuel listed a w
 |0,_,_,_,w,_,hC,hg,h=>h w hC hg
 |fuel+1,listed,a,G,w,hG,hC,hg,h=>by
  by_cases hd:∀k,k<m→listed.getD k false=true
  ·exact h.1 hd w hC hg
  ·obtain⟨h1,h2⟩:=h.2 hd;refine⟨fun h0=>h1 h0 w hC hg,fun j hj=>?_⟩;obtain⟨_,oj,hoj,_⟩:=mem_ready.1 hj;exact wpOp_of_rOp hcl hG ⟨oj,hoj⟩ hC hg (h2 j hj) (fun a' G' w' hC' hG' hg' hk=>wpAny_of_R hcl fuel _ a' G' w' hG' hC' hg' hk)
theorem RelyA.put {o:Oper}{a:Act}{x:Option Tmp}{v0:Value}{w:World}{R:Value→World→Prop}(hs:∀cs b,o.op≠.select cs b)(h1:∀d,x=some d→d∉o.looksAt ops)(h2:∀d,x=some d→o.dst≠some d)(h:RelyA P o a w R):RelyA P o (a.put x v0) w R:=by
 intro Q
 have hc:∀u v,a.put o.dst u=a.put o.dst v→(a.put x v0).put o.dst u=(a.put x v0).put o.dst v:=fun u v e=>by
  rw[Act.put_comm a v0 u h2,Act.put_comm a v0 v h2,e]
 have h':=h (fun e _ w'=>Q e (a.put x v0) w');unfold Oper.wp at*;rw[execOp_put (ops:=ops) o hs a x v0 h1];clear h;generalize (execOp a.eval o).run P w=r at*;cases r with
 |ok n w'=>
  cases n<;>simp only[Oper.upon] at h' ⊢;(case value u=>obtain⟨v,e,r⟩:=h';exact⟨v,hc _ _ e,r⟩);(case skip=>obtain⟨v,e,r⟩:=h';exact⟨v,hc _ _ e,r⟩);case defer d=>
   obtain⟨v,e,r⟩:=h';have:=congrArg (fun t:Act=>t.defers.length) e;simp only[put_df,qC] at this;omega
  case enter f args=>
   refine Calls.mono h' fun e w'' he=>?_
   cases e with
   |returned u=>obtain⟨v,e,r⟩:=he;exact⟨v,hc _ _ e,r⟩
   |panicked c=>exact he
   |outgrown=>obtain⟨a',w',q⟩:=he;exact⟨a.put x v0,w',q⟩
  case row row args=>exact Rows.mono h' fun u w'' he=>by obtain⟨v,e,r⟩:=he;exact⟨v,hc _ _ e,r⟩
 |halt x w'=>cases x<;>simp only[Oper.upon] at h' ⊢;exact h'
theorem RelyA.ex {o:Oper}{a:Act}{w:World}{R:Value→World→Prop}(h:RelyA P o a w R):∃v w',R v w':=by
 have h:=h (fun _ _ _=>False);unfold Oper.wp at h;generalize (execOp a.eval o).run P w=r at*;cases r with
 |ok n w'=>
  cases n<;>simp only[Oper.upon] at h;(case value u=>obtain⟨v,e,r⟩:=h;exact⟨v,w',r⟩);(case skip=>obtain⟨v,e,r⟩:=h;exact⟨v,w',r⟩);(case defer d=>obtain⟨v,e,r⟩:=h;exact⟨v,w',r⟩);case enter f args=>
   obtain⟨e,w2,_,he,_⟩:=h [];cases e with
   |returned u=>obtain⟨v,e,r⟩:=he;exact⟨v,w2,r⟩
   |panicked c=>exact he.elim
   |outgrown=>obtain⟨_,_,q⟩:=he;exact q.elim
  case row row args=>obtain⟨v,w2,⟨v',e,r⟩,_⟩:=h (Frame.enter P 0 #[] .normal) [];exact⟨v',w2,r⟩
 |halt x w'=>cases x<;>simp only[Oper.upon] at h
theorem wpAnyR_first (hcl:∀w w',C w→Rl w w'→C w'){i:Nat}{oi:Oper}(hi:ops[i]? =some oi)(him:i<m)(hsel:∀(j:Nat) (o:Oper) cs b,ops[j]? =some o→o.op≠.select cs b) (htail:∀j oj,ops[j]? =some oj→m≤j→∃f,Qbb md ops i f j=true):
 ∀(fuel:Nat) (listed:Array Bool) (a:Act) (G:Nat→World→Prop),Closed md ops listed→(∀k,listed.getD k false=false→∀w,G k w)→(∀k w w',G k w→Rl w w'→G k w')→(∃w,C w∧∀k,G k w)→ (∀j oj,ops[j]? =some oj→j≠i→listed.getD j true=false→(∀e∈oj.after,Region.binds md e=true→e.on≠i)→oi.apart ops oj=true)→ i∈Region.ready md ops listed→rOp P md ops C hs Φ i (QcK P md ops Q C hs Φ m fuel (listed.setIfInBounds i true)) a G→ QcK P md ops Q C hs Φ m (fuel+1) listed a G:=by
 have unl:∀(listed:Array Bool) (j:Nat),j∈Region.ready md ops listed→listed.getD j false=false∧j<listed.size:=fun listed j hj=>by
  have:=(mem_ready.1 hj).1;rcases Nat.lt_or_ge j listed.size with h'|h'
  ·refine⟨?_,h'⟩;simp[h'] at this ⊢;exact this
  ·simp[Array.getElem?_eq_none h'] at this
 intro fuel;induction fuel with
 |zero=>
  intro listed a G hC hT hG hne hfree hr H;refine⟨fun h=>absurd (h i him) (by rw[(unl _ _ hr).1];simp),fun _=>⟨fun h0=>(by rw[h0] at hr;cases hr),fun j hj=>?_⟩⟩;by_cases hji:j=i
  ·subst hji;exact H
  ·exfalso;have hj':=ready_mono hj hji;obtain⟨w0,hC0,hg0⟩:=hne;cases hb:busy ops hs i oi a with
   |false=>
    obtain⟨v,_,hk⟩:=(H oi hi).1 hb;rw[(hk w0 hC0 hg0).1] at hj';cases hj'
   |true=>
    obtain⟨hsf,hk⟩:=(H oi hi).2 hb;obtain⟨v,w1,hb1,hp⟩:=(hsf w0 hC0 (fun k _=>hg0 k)).ex;have hC1:=hcl _ _ hC0 hb1;have hg1:∀k,G k w1:=fun k=>hG k _ _ (hg0 k) hb1
    have:=hk v ⟨w1,hC1,hg1,hp⟩ w1 hC1 (fun k=>by unfold Qc7;split;exact hp;exact hg1 k);rw[this.1] at hj';cases hj'
 |succ fuel ih=>
  intro listed a G hC hT hG hne hfree hr H;refine⟨fun h=>absurd (h i him) (by rw[(unl _ _ hr).1];simp),fun _=>⟨fun h0=>(by rw[h0] at hr;cases hr),fun j hj=>?_⟩⟩;by_cases hji:j=i
  ·subst hji;exact H
  obtain⟨hjun,oj,hoj,hall⟩:=mem_ready.1 hj;have hiu:=(unl _ _ hr).1;have hju:=(unl _ _ hj).1
  have hnot:∀e∈oj.after,Region.binds md e=true→e.on≠i:=fun e he hb heq=>by
   have h1:=hall e he hb;rw[heq,hiu] at h1;cases h1
  have hwij:∀f k,Qbb md ops k f j=true→k≠i:=fun f k hk he=>by
   subst he;have:=Qbf hC f j hk (QcP hj);rw[hiu] at this;cases this
  have hwji:∀f k,Qbb md ops k f i=true→k≠j:=fun f k hk he=>by
   subst he;have:=Qbf hC f i hk (QcP hr);rw[hju] at this;cases this
  have hjm:j<m:=by
   rcases Nat.lt_or_ge j m with h|h
   ·exact h
   ·obtain⟨f,hf⟩:=htail j oj hoj h;exact absurd rfl (hwij f i hf)
  obtain⟨h1,h2,h3⟩:=Oper.apart_spec (hfree j oj hoj hji hjun hnot);have hsj:=fun cs b=>hsel j oj cs b hoj
  have hsi:=fun cs b=>hsel i oi cs b hi
  have h2':∀d,oj.dst=some d→oi.dst≠some d:=fun d hd he=>h2 d he hd
  have bj:∀v,busy ops hs j oj (a.put oi.dst v)=busy ops hs j oj a:=fun v=>by unfold busy;rw[wanted_put oj a oi.dst v h1]
  have bi:∀u,busy ops hs i oi (a.put oj.dst u)=busy ops hs i oi a:=fun u=>by unfold busy;rw[wanted_put oi a oj.dst u h3]
  have fj:∀v u,FixA P ops oj (a.put oi.dst v) C u→FixA P ops oj a C u:=fun v u h=>h.same (execOp_put oj hsj a oi.dst v h1).symm (wanted_put oj a oi.dst v h1).symm
  have fi:∀u v,FixA P ops oi a C v→FixA P ops oi (a.put oj.dst u) C v:=fun u v h=>h.same (execOp_put oi hsi a oj.dst u h3) (wanted_put oi a oj.dst u h3)
  have hlij:(listed.setIfInBounds i true).setIfInBounds j true=(listed.setIfInBounds j true).setIfInBounds i true:=Array.setIfInBounds_comm _ _ (Ne.symm hji)
  have hnext:∀a' G',QcK P md ops Q C hs Φ m (fuel+1) (listed.setIfInBounds i true) a' G'→rOp P md ops C hs Φ j (QcK P md ops Q C hs Φ m fuel ((listed.setIfInBounds j true).setIfInBounds i true)) a' G':=fun a' G' h=>by
   rw[←hlij];refine(h.2 (fun hd=>?_)).2 j (ready_mono hj hji);have:=hd j hjm;rw[Go.getD_set_ne false (Ne.symm hji),hju] at this;cases this
  have hfree':∀k ok,ops[k]? =some ok→k≠i→(listed.setIfInBounds j true).getD k true=false→ (∀e∈ok.after,Region.binds md e=true→e.on≠i)→oi.apart ops ok=true:=fun k ok hk hki hun hno=>by
   refine hfree k ok hk hki ?_ hno;by_cases hjk:j=k
   ·subst hjk;exact hjun
   ·rw[Go.getD_set_ne true hjk] at hun;exact hun
  have hT1:∀k,(listed.setIfInBounds j true).getD k false=false→k≠j∧listed.getD k false=false:=fun k hk=>by
   by_cases hjk:j=k
   ·subst hjk;simp[(unl _ _ hj).2] at hk
   ·rw[Go.getD_set_ne false hjk] at hk;exact⟨Ne.symm hjk,hk⟩
  have IH:=fun a' G'=>ih (listed.setIfInBounds j true) a' G' (hC.set hj)
  have hrd:=ready_mono hr (Ne.symm hji);have hTG:∀k,(listed.setIfInBounds j true).getD k false=false→∀w,G k w:=fun k hk=>hT k (hT1 k hk).2
  have hTU:∀φ:World→Prop,∀k,(listed.setIfInBounds j true).getD k false=false→∀w,Qc7 G j φ k w:=fun φ k hk w=>by
   rw[Qdq (hT1 k hk).1];exact hT k (hT1 k hk).2 w
  have hGU:∀u,∀k w w',Qc7 G j ((Φ j).p u) k w→Rl w w'→Qc7 G j ((Φ j).p u) k w':=fun u k x x' hx hxb=>by
   unfold Qc7 at*;split
   ·rename_i e;rw[if_pos e] at hx;exact(Φ j).st _ _ _ hx hxb
   ·rename_i e;rw[if_neg e] at hx;exact hG k x x' hx hxb
  have hJne:∀u,Joint C G ((Φ j).p u)→∃w,C w∧∀k,Qc7 G j ((Φ j).p u) k w:=fun u ⟨w,c,g,p⟩=>⟨w,c,fun k=>by unfold Qc7;split;exact p;exact g k⟩
  obtain⟨w0,hC0,hg0⟩:=hne;intro o ho;obtain rfl:oj=o:=Option.some.inj (hoj.symm.trans ho);cases hbi:busy ops hs i oi a with
  |false=>
   obtain⟨v,hfi,hK⟩:=(H oi hi).1 hbi;have hj':=hnext _ _ hK oj hoj;rw[bj] at hj';refine⟨fun hbj=>?_,fun hbj=>?_⟩
   ·obtain⟨u,hfj,hKj⟩:=hj'.1 hbj;refine⟨u,fj _ _ hfj,IH _ _ hTG hG ⟨w0,hC0,hg0⟩ hfree' hrd ?_⟩;intro o' ho';obtain rfl:oi=o':=Option.some.inj (hi.symm.trans ho');refine⟨fun _=>⟨v,fi _ _ hfi,?_⟩,fun hb=>?_⟩
    ·rw[←Act.put_comm a v u h2];exact hKj
    ·rw[bi,hbi] at hb;cases hb
   ·obtain⟨hsafe,hKj⟩:=hj'.2 hbj;refine⟨fun w hw hf=>(hsafe w hw hf).unput hsj h1 h2,fun u hu=>IH _ _ (hTU _) (hGU u) (hJne u hu) hfree' hrd ?_⟩;intro o' ho';obtain rfl:oi=o':=Option.some.inj (hi.symm.trans ho');refine⟨fun _=>⟨v,fi _ _ hfi,?_⟩,fun hb=>?_⟩
    ·rw[←Act.put_comm a v u h2];exact hKj u hu
    ·rw[bi,hbi] at hb;cases hb
  |true=>
   obtain⟨hsf,hK⟩:=(H oi hi).2 hbi;obtain⟨v0,w1,hb1,hp1⟩:=(hsf w0 hC0 (fun k _=>hg0 k)).ex;have hj0:=hnext _ _ (hK v0 ⟨w1,hcl _ _ hC0 hb1,fun k=>hG k _ _ (hg0 k) hb1,hp1⟩) oj hoj;rw[bj] at hj0;refine⟨fun hbj=>?_,fun hbj=>?_⟩
   ·obtain⟨u,hfj,_⟩:=hj0.1 hbj;refine⟨u,fj _ _ hfj,IH _ _ hTG hG ⟨w0,hC0,hg0⟩ hfree' hrd ?_⟩;intro o' ho';obtain rfl:oi=o':=Option.some.inj (hi.symm.trans ho');refine⟨fun hb=>?_,fun _=>⟨fun w hw hf=>(hsf w hw hf).put hsi h3 h2',fun v hv=>?_⟩⟩
    ·rw[bi,hbi] at hb;cases hb
    ·have hjv:=hnext _ _ (hK v hv) oj hoj;rw[bj] at hjv;obtain⟨u',hfj',hk'⟩:=hjv.1 hbj;obtain rfl:=(fj _ _ hfj').uniq hC0 (fj _ _ hfj);rw[←Act.put_comm a v u' h2];exact hk'
   ·obtain⟨hsj0,_⟩:=hj0.2 hbj;refine⟨fun w hw hf=>(hsj0 w hw (fun k hk=>by rw[Qdq (hwij _ k hk)];exact hf k hk)).unput hsj h1 h2,fun u hu=>IH _ _ (hTU _) (hGU u) (hJne u hu) hfree' hrd ?_⟩;intro o' ho';obtain rfl:oi=o':=Option.some.inj (hi.symm.trans ho');refine⟨fun hb=>?_,fun _=>⟨fun w hw hf=>(hsf w hw (fun k hk=>by have:=hf k hk;rwa [Qdq (hwji _ k hk)] at this)).put hsi h3 h2',fun v hv=>?_⟩⟩
    ·rw[bi,hbi] at hb;cases hb
    ·obtain⟨w3,hC3,hg3,hp3⟩:=hv
     have hg4:∀k,G k w3:=fun k=>by
      by_cases hkj:k=j
      ·subst hkj;exact hT k hju w3
      ·have:=hg3 k;rwa [Qdq hkj] at this
     have hjv:=hnext _ _ (hK v ⟨w3,hC3,hg4,hp3⟩) oj hoj;rw[bj] at hjv;have:=(hjv.2 hbj).2 u ⟨w3,hC3,fun k=>by unfold Qc7;split;exact hp3;exact hg4 k,by have:=hg3 j;rwa [updG_same] at this⟩;rw[←Act.put_comm a v u h2,updG_comm hji];exact this
def kind (hs:List Nat)(m k:Nat):Nat:=if Nat.beq k m then 2 else if hs.contains k then 1 else 0
def wpR (P:Program)(md:Region.Mode)(ops:Array Oper)(C:World→Prop)(hs:List Nat){Rl:World→World→Prop}(Φ:Nat→SPR Rl)(m:Nat)(fin:Act→(Nat→World→Prop)→Prop):List Oper→Nat→Act→(Nat→World→Prop)→Prop
 |[],_,a,G=>fin a G
 |o::l,k,a,G=>
  if kind hs m k=2 then fin a G
  else if Region.wanted o (yielded ops a.tmps)=true then
   if kind hs m k=1 then Safe P md ops C Φ k o a G∧∀v,Joint C G ((Φ k).p v)→wpR P md ops C hs Φ m fin l (k+1) (a.put o.dst v) (Qc7 G k ((Φ k).p v))
   else o.quiet P a C (fun a'=>wpR P md ops C hs Φ m fin l (k+1) a' G)
  else wpR P md ops C hs Φ m fin l (k+1) (a.put o.dst undef) G
structure WR (P:Program)(md:Region.Mode)(ops:Array Oper)(C:World→Prop){Rl:World→World→Prop}(hs:List Nat)(Φ:Nat→SPR Rl)(m:Nat)(fin:Act→(Nat→World→Prop)→Prop)(l:List Oper)(k:Nat)(a:Act)(G:Nat→World→Prop):Prop where
 h:wpR P md ops C hs Φ m fin l k a G
def lst (n:Nat):Nat→Array Bool
 |0=>Array.replicate n false
 |k+1=>(lst n k).setIfInBounds k true
theorem lst_size (n:Nat):∀k,(lst n k).size=n
 |0=>by simp[lst]
 |k+1=>by rw[lst,Array.size_setIfInBounds];exact lst_size n k
theorem lst_get (n:Nat):∀k j,j<n→(lst n k).getD j false=decide (j<k)
 |0,j,hj=>by simp[lst,hj]
 |k+1,j,hj=>by
  by_cases h:k=j
  ·subst h;have:k<(lst n k).size:=(by rw[lst_size];exact hj);simp[lst,this]
  ·rw[lst,Go.getD_set_ne false h,lst_get n k j hj];congr 1;simp only[eq_iff_iff];omega
def relyB (md:Region.Mode)(ops:Array Oper)(hs:List Nat)(m:Nat):Bool:=
 Region.noSelect ops&&Nat.ble m ops.size&&(List.range m).all (fun k=>(Region.ready md ops (lst ops.size k)).contains k&&Region.free md ops (lst ops.size k) k&&(hs.contains k||((ops[k]?).map fun o=>plainOp o.op).getD false))&& (List.range ops.size).all (fun j=>Nat.blt j m||(List.range m).all fun i=>Qbb md ops i ops.size j)
theorem wpAnyR_lex (hcl:∀w w',C w→Rl w w'→C w')(hB:relyB md ops hs m=true):∀(l:List Oper) (k:Nat) (a:Act) (G:Nat→World→Prop),(∀j,l[j]? =ops[k+j]?)→k≤m→Closed md ops (lst ops.size k)→ (∀j,(lst ops.size k).getD j false=false→∀w,G j w)→(∀k w w',G k w→Rl w w'→G k w')→(∃w,C w∧∀k,G k w)→ wpR P md ops C hs Φ m (fun a G=>∀w,C w→(∀k,G k w)→wpAny P md ops Q (ops.size-m) (lst ops.size m) a w) l k a G→QcK P md ops Q C hs Φ m (ops.size-k) (lst ops.size k) a G:=by
 unfold relyB at hB;rw[Bool.and_eq_true,Bool.and_eq_true,Bool.and_eq_true] at hB;obtain⟨⟨⟨hns,hmn⟩,hall⟩,htl⟩:=hB;have hmn:m≤ops.size:=Nat.le_of_ble_eq_true hmn
 have htail:∀i,i<m→∀j oj,ops[j]? =some oj→m≤j→∃f,Qbb md ops i f j=true:=fun i hi j oj hj hmj=>by
  have h1:=(List.all_eq_true.1 htl) j (List.mem_range.2 (Array.getElem?_eq_some_iff.1 hj).1);rw[Bool.or_eq_true] at h1;rcases h1 with h1|h1
  ·have:=of_decide_eq_true (p:=j<m) (by simpa[Nat.blt_eq] using h1);omega
  ·exact⟨_,(List.all_eq_true.1 h1) i (List.mem_range.2 hi)⟩
 have fin:∀a G,(∀w,C w→(∀k,G k w)→wpAny P md ops Q (ops.size-m) (lst ops.size m) a w)→QcK P md ops Q C hs Φ m (ops.size-m) (lst ops.size m) a G:=by
  intro a G h;generalize hn:ops.size-m=r at h;cases r with
  |zero=>exact h
  |succ r=>exact⟨fun _=>h,fun hd=>absurd (fun k hk=>by rw[lst_get _ _ _ (by omega)];simpa using hk) hd⟩
 intro l;induction l with
 |nil=>
  intro k a G hl hkm hC hT hG hne h;have:k=m:=by
   rcases Nat.lt_or_ge k m with h'|h'
   ·have h1:=hl 0;rw[Nat.add_zero,Array.getElem?_eq_getElem (show k<ops.size by omega)] at h1;cases h1
   ·omega
  subst this;exact fin a G h
 |cons o l ih=>
  intro k a G hl hkm hC hT hG hne h;have h0:ops[k]? =some o:=(by simpa using(hl 0).symm);have hks:k<ops.size:=(Array.getElem?_eq_some_iff.1 h0).1;rw[wpR] at h;by_cases hk:k=m
  ·subst hk;rw[if_pos (by simp[kind])] at h;exact fin a G h
  ·have hkn:Nat.beq k m=false:=by
    cases h:Nat.beq k m with
    |false=>rfl
    |true=>exact absurd (Nat.eq_of_beq_eq_true h) hk
   have hlt:k<m:=(by omega);have h1:=(List.all_eq_true.1 hall) k (List.mem_range.2 hlt);rw[Bool.and_eq_true,Bool.and_eq_true,h0,Option.map_some,Option.getD_some] at h1;obtain⟨⟨hr,hf⟩,hpl⟩:=h1;have hr':k∈Region.ready md ops (lst ops.size k):=(by simpa using hr);rw[if_neg (by unfold kind;rw[hkn];cases hs.contains k<;>decide)] at h;rw[show ops.size-k=(ops.size-(k+1))+1 by omega];have hC1:Closed md ops (lst ops.size (k+1)):=hC.set hr'
   have hT1:∀j,(lst ops.size (k+1)).getD j false=false→j≠k∧(lst ops.size k).getD j false=false:=fun j hj=>by
    by_cases hjk:k=j
    ·subst hjk;rw[lst_get _ _ _ hks] at hj;simp at hj
    ·rw[lst,Go.getD_set_ne false hjk] at hj;exact⟨Ne.symm hjk,hj⟩
   have hTG:∀j,(lst ops.size (k+1)).getD j false=false→∀w,G j w:=fun j hj=>hT j (hT1 j hj).2
   have hl':∀j,l[j]? =ops[k+1+j]? :=fun j=>by have:=hl (j+1);simpa[Nat.add_assoc,Nat.add_comm 1 j] using this
   refine wpAnyR_first hcl h0 hlt (Region.noSelect_spec hns) (htail k hlt) _ _ a G hC hT hG hne (Region.free_spec h0 hf) hr' ?_;intro o' ho';obtain rfl:o=o':=Option.some.inj (h0.symm.trans ho');obtain⟨w0,hC0,hg0⟩:=hne;by_cases hw:Region.wanted o (yielded ops a.tmps)=true
   ·rw[if_pos hw] at h;by_cases hc:hs.contains k=true
    ·rw[if_pos (by unfold kind;rw[hkn,hc];simp)] at h;refine⟨fun hb=>?_,fun _=>⟨h.1,fun v hv=>?_⟩⟩
     ·unfold busy at hb;rw[hc,hw] at hb;cases hb
     ·refine ih (k+1) _ _ hl' hlt hC1 (fun j hj w=>by rw[Qdq (hT1 j hj).1];exact hT j (hT1 j hj).2 w) ?_ ?_ (h.2 v hv)
      ·intro j x x' hx hxb;unfold Qc7 at*;split
       ·rename_i e;rw[if_pos e] at hx;exact(Φ k).st _ _ _ hx hxb
       ·rename_i e;rw[if_neg e] at hx;exact hG j x x' hx hxb
      ·obtain⟨w1,c,g,p⟩:=hv;exact⟨w1,c,fun j=>by unfold Qc7;split;exact p;exact g j⟩
    ·rw[if_neg (by unfold kind;rw[hkn,if_neg (by simp),if_neg hc];decide)] at h;have hc':hs.contains k=false:=(by simpa using hc);rw[hc',Bool.false_or] at hpl;obtain⟨v,hq,hk'⟩:=h;refine⟨fun _=>⟨v,.inl ⟨hw,fun w hCw=>?_⟩,ih (k+1) _ _ hl' hlt hC1 hTG hG ⟨w0,hC0,hg0⟩ hk'⟩,fun hb=>?_⟩
     ·have h2:=hq w hCw;unfold Oper.quietAt at h2;cases hr2:(execOp a.eval o).run P w with
      |ok n w2=>
       obtain⟨u,rfl⟩:=plain_run hpl hr2;rw[hr2] at h2;obtain⟨rfl,rfl⟩:=h2;rfl
      |halt x w2=>rw[hr2] at h2;exact h2.elim
     ·unfold busy at hb;rw[hc'] at hb;cases hb
   ·rw[if_neg hw] at h;refine⟨fun _=>⟨undef,.inr ⟨by simpa using hw,rfl⟩,ih (k+1) _ _ hl' hlt hC1 hTG hG ⟨w0,hC0,hg0⟩ h⟩,fun hb=>?_⟩;unfold busy at hb;rw[Bool.and_eq_true] at hb;exact absurd hb.2 hw
theorem Qdy {id:Nat}{a:Act}{w:World}{l:List Oper}(Rl:World→World→Prop)(C:World→Prop)(hC:C w.drew)(hcl:∀x x',C x→Rl x x'→C x')(hs:List Nat)(Φ:Nat→SPR Rl)(m:Nat)(hm:P.follows .mixedOrders=true)(hB:relyB .any l.toArray hs m=true)
 (h:∀(T:Type) (_:Nonempty T) (f:T→World),(∀d,C (f d))→(∀d w',Rl (f d) w'→∃m,w'=f m)→ WR P .any l.toArray (fun w'=>∃n,w'=f n) hs Φ m (fun a' G=>∀n,(∀k,G k (f n))→wpAny P .any l.toArray Q (l.length-m) (lst l.length m) a' (f n)) l 0 a (fun _ _=>True)):(Code.region id l.toArray true).wp P Q a w:=by
 have hh:=(h _ ⟨⟨_,hC⟩⟩ (Subtype.val:{x:World // C x}→World) (fun d=>d.2) (fun d w' hb=>⟨⟨w',hcl _ _ d.2 hb⟩,rfl⟩)).h;have hcl':∀x x':World,(∃n,x=(Subtype.val:{x:World // C x}→World) n)→Rl x x'→∃n,x'=(Subtype.val:{x:World // C x}→World) n:=by
  rintro _ x' ⟨d,rfl⟩ hb;exact⟨⟨x',hcl _ _ d.2 hb⟩,rfl⟩
 have hC0:∃n,({w with drawn:=w.drawn+1}:World)=(Subtype.val:{x:World // C x}→World) n:=⟨⟨_,hC⟩,rfl⟩;refine wp_region_any hm ?_
 have hlex:=wpAnyR_lex (P:=P) (Q:=Q) (Φ:=Φ) hcl' hB l 0 a (fun _ _=>True) (by simp) (Nat.zero_le _) (by
  intro j oj _ hl
  exfalso
  rcases Nat.lt_or_ge j l.toArray.size with h'|h'
  ·rw[lst_get _ _ _ h'] at hl;simp at hl
  ·rw[lst,Array.getD_eq_getD_getElem?,Array.getElem?_eq_none (by simpa using h')] at hl;simp at hl) (fun _ _ _=>trivial) (fun _ _ _ _ _=>trivial) ⟨_,hC0,fun _=>trivial⟩
  (by
    refine cast (congrArg (fun fin=>wpR P .any l.toArray _ hs Φ m fin l 0 a _) ?_) hh
    funext a' G
    apply propext
    constructor
    ·rintro hx _ ⟨n,rfl⟩ hg
     simpa using hx n hg
    ·intro hx n hg
     simpa using hx _ ⟨n,rfl⟩ hg)
 exact wpAny_of_R hcl' _ _ _ _ _ (fun _ _ _ _ _=>trivial) hC0 (fun _=>trivial) (by simpa[lst] using hlex)
theorem Qaq {id:Nat}{a:Act}{w:World}{l:List Oper}(hs:List Nat)(Φ:Nat→SP)(m:Nat)(hm:P.follows .mixedOrders=true)(hB:relyB .any l.toArray hs m=true)
 (h:∀(T:Type) (_:Nonempty T) (f:T→World),(∀d,Below w.heap.size w (f d))→(∀d w',Below (f d).heap.size (f d) w'→∃m,w'=f m)→ WR P .any l.toArray (fun w'=>∃n,w'=f n) hs Φ m (fun a' G=>∀n,(∀k,G k (f n))→wpAny P .any l.toArray Q (l.length-m) (lst l.length m) a' (f n)) l 0 a (fun _ _=>True)):(Code.region id l.toArray true).wp P Q a w:=
 Qdy Newer (fun x=>Below w.heap.size w x) ((Below.refl _ w).drew) (fun x x' hx hb=>hx.trans (Below.mono (show Below x.heap.size x x' from hb) hx.size)) hs Φ m hm hB h
end
section
variable {P:Program} {ops:Array Oper} {Q:Exit→Act→World→Prop} {md:Region.Mode} {C:World→Prop} {hs:List Nat} {Rl:World→World→Prop} {Φ:Nat→SPR Rl} {m:Nat} {fin:Act→(Nat→World→Prop)→Prop} {T:Type} {f:T→World} {a:Act} {G:Nat→World→Prop} {o:Oper} {l:List Oper} {k:Nat}
theorem QaB (hk:kind hs m k=0)(h:∀Kq:Act→Prop,(∀a',WR P md ops C hs Φ m fin l (k+1) a' G→Kq a')→wpQuiet P ops C Kq [o] a):WR P md ops C hs Φ m fin (o::l) k a G:=by
 have h:=h (fun a'=>wpR P md ops C hs Φ m fin l (k+1) a' G) (fun _ h=>h.h);refine⟨?_⟩;rw[wpR,if_neg (by rw[hk];decide),if_neg (show ¬kind hs m k=1 by rw[hk];decide)];exact h
theorem Qa7 (hk:kind hs m k=1)(hw:Region.wanted o (yielded ops a.tmps)=true) (h1:∀d,(∀i,Qbb md ops i ops.size k=true→G i (f d))→∀(K:Act→World→Prop) (Q:Exit→Act→World→Prop),(∀v w',Rl (f d) w'→(Φ k).p v w'→K (a.put o.dst v) w')→o.wp P a (f d) K Q) (h2:∀v d,(∀i,G i (f d))→(Φ k).p v (f d)→∀Kr:Act→Prop,(∀a',WR P md ops (fun w'=>∃n,w'=f n) hs Φ m fin l (k+1) a' (Qc7 G k ((Φ k).p v))→Kr a')→Kr (a.put o.dst v)):WR P md ops (fun w'=>∃n,w'=f n) hs Φ m fin (o::l) k a G:=by
 refine⟨?_⟩;rw[wpR,if_neg (by rw[hk];decide),if_pos hw,if_pos hk];refine⟨?_,?_⟩
 ·rintro _ ⟨d,rfl⟩ hG Q;exact h1 d hG _ Q (fun v w' hb hp=>⟨v,rfl,hb,hp⟩)
 ·rintro v ⟨_,⟨d,rfl⟩,hG,hp⟩;exact h2 v d hG hp (fun a'=>wpR P md ops (fun w'=>∃n,w'=f n) hs Φ m fin l (k+1) a' (Qc7 G k ((Φ k).p v))) (fun _ h=>h.h)
theorem wpR_end {n:Nat}(hr:Region.ready md ops (lst n m)=[])(h:∀d,(∀i,G i (f d))→Q .normal a (f d)):∀r,WR P md ops C hs Φ m (fun a' G=>∀d,(∀i,G i (f d))→wpAny P md ops Q r (lst n m) a' (f d)) [] k a G:=fun r=>⟨fun d hG=>
 wpAny_done hr (h d hG) r⟩
theorem QcQ {n r:Nat}(r':Nat)(hk:kind hs m k=2)(hr:r=r')(h:∀d,(∀i,G i (f d))→wpAny P md ops Q r' (lst n m) a (f d)):WR P md ops C hs Φ m (fun a' G=>∀d,(∀i,G i (f d))→wpAny P md ops Q r (lst n m) a' (f d)) (o::l) k a G:=by
 subst hr;refine⟨?_⟩;rw[wpR,if_pos hk];exact h
theorem QbJ {i:Nat}{oi:Oper}{fuel:Nat}{listed:Array Bool}{w:World}(hi:ops[i]? =some oi)(hr:Region.ready md ops listed=[i])(hw:Region.wanted oi (yielded ops a.tmps)=true) (h:∀K:Act→World→Prop,(∀a' w',wpAny P md ops Q fuel (listed.setIfInBounds i true) a' w'→K a' w')→oi.wp P a w K Q):wpAny P md ops Q (fuel+1) listed a w:=by
 refine⟨fun h0=>(by rw[hr] at h0;cases h0),fun j hj=>?_⟩;rw[hr,List.mem_singleton] at hj;subst hj;unfold wpOp;rw[hi];dsimp only;rw[if_pos hw];exact .inl (h _ fun a' w' hs=>hs)
end
section
variable {P:Program} {α:Type} [Rep α]
end
def SP.own {α:Type}[Rep α](B:Nat)(e:TypeId)(l:List α):SP:=⟨fun v w=>Own w B e v l,fun _ _ _ h hb=>h.below hb⟩
def SP.val (u:Value):SP:=⟨fun v _=>v=u,fun _ _ _ h _=>h⟩
def SP.any:SP:=⟨fun _ _=>True,fun _ _ _ h _=>h⟩
def SP.box (B:Nat)(cs:Array Value)(t:TypeId):SP:=⟨fun v w=>∃b,v=.pointer (some ⟨b,0,none⟩)∧B≤b∧b<w.heap.size∧w.heap[b]? =some (.cells cs t (0,0)),fun _ _ _ h hb=>by
 obtain⟨b,h1,h2,h3,h4⟩:=h
 exact⟨b,h1,h2,by have:=hb.size;omega,by rw[hb.block b h3];exact h4⟩⟩
theorem QcM {B R:Nat}{a w:World}(h:Below B a w)(hB:B≤R)(cs:Array Value):Below B a (w.setRow R cs):=
 ⟨h.os,h.tape,h.output,by rw[setRow_size];exact h.size,fun i hi=>(setRow_other w R i cs (by omega)).trans (h.block i hi)⟩
theorem cell_lt {w:World}{k:Nat}{b:Obj}(h:w.heap[k]? =some b):k<w.heap.size:=(Array.getElem?_eq_some_iff.1 h).1
def ABox (w:World)(P:Nat)(t:TypeId)(cs:List Value):Prop:=w.heap[P]? =some (.cells cs.toArray t (0,0))
section
variable {w w':World} {P:Nat} {t:TypeId} {cs:List Value}
theorem ABox.lt (h:ABox w P t cs):P<w.heap.size:=cell_lt h
theorem ABox.to (h:ABox w P t cs)(hb:Below w.heap.size w w'):ABox w' P t cs:=(hb.block P h.lt).trans h
theorem ABox.cell (h:ABox w P t cs)(i:Nat){v:Value}(hv:cs[i]? =some v):w.cell? ⟨P,i,none⟩=some v:=by
 rw[cell_of_row w P i _ _ _ h];simpa using hv
theorem ABox.fz (h:ABox w P t cs)(o:Nat):w.frozen? ⟨P,o,none⟩=false:=by
 unfold ABox at h;simp[World.frozen?,h]
theorem ABox.set (h:ABox w P t cs)(i:Nat)(v:Value):ABox (w.setCell ⟨P,i,none⟩ v) P t (cs.set i v):=by
 have:=Qb8 w P i v h;unfold ABox;rw[this];simp
theorem ABox.other (h:ABox w P t cs){Q:Nat}(hq:P≠Q)(o:Nat)(v:Value):ABox (w.setCell ⟨Q,o,none⟩ v) P t cs:=(Qad w Q o v hq).trans h
end
def IRow (w:World)(b:Nat)(t:TypeId)(l:List Int):Prop:=ABox w b t (l.map (Value.int .i64))
section
variable {w w':World} {b:Nat} {t:TypeId} {l:List Int}
theorem IRow.lt (h:IRow w b t l):b<w.heap.size:=ABox.lt h
theorem IRow.to (h:IRow w b t l)(hb:Below w.heap.size w w'):IRow w' b t l:=ABox.to h hb
theorem IRow.cell (h:IRow w b t l)(i:Nat){n:Int}(hi:l[i]? =some n):w.cell? ⟨b,i,none⟩=some (.int .i64 n):=ABox.cell h i (by rw[List.getElem?_map,hi];rfl)
theorem IRow.fz (h:IRow w b t l)(o:Nat):w.frozen? ⟨b,o,none⟩=false:=ABox.fz h o
theorem IRow.set (h:IRow w b t l)(i:Nat)(n:Int):IRow (w.setCell ⟨b,i,none⟩ (.int .i64 n)) b t (l.set i n):=by
 unfold IRow;rw[List.map_set];exact ABox.set h i _
theorem IRow.other (h:IRow w b t l){Q:Nat}(hq:b≠Q)(o:Nat)(v:Value):IRow (w.setCell ⟨Q,o,none⟩ v) b t l:=ABox.other h hq o v
theorem IRow.own (h:IRow w b t l){B:Nat}(hB:B≤b)(hI:∀x∈l,I64 x)(hl:l.length≤maxLen):Own w B t (.slice (some ⟨b,0,none⟩) l.length l.length) l:=by
 refine⟨l.map (Value.int .i64),⟨by simp[Rep.size],.inr ⟨b,l.length,_,rfl,hB,h,Nat.le_refl _,hl,by simp[Rep.size],by simp only[Rep.size,Nat.mul_one];exact List.take_of_length_le (by simp)⟩⟩,?_,fun i hi=>?_⟩
 ·intro u hu;obtain⟨x,_,rfl⟩:=List.mem_map.1 hu;rfl
 ·refine⟨?_,hI _ (List.getElem_mem hi)⟩;simp only[Rep.size,Nat.mul_one];rw[List.drop_eq_getElem_cons (by simpa using hi),List.take_succ_cons,List.take_zero,List.getElem_map]
end
def tot (l:List (List Word)):Nat:=l.flatten.length
theorem QcV (l:List (List Word))(k:Nat)(h:k<l.length):tot (l.take (k+1))=tot (l.take k)+l[k].length:=by
 unfold tot;rw[qT h,List.flatten_append,qA,List.flatten_singleton]
theorem tot_le (l:List (List Word))(k:Nat):tot (l.take k)≤tot l:=by
 have h:tot l=tot (l.take k)+tot (l.drop k):=by
  unfold tot;rw[←qA,←List.flatten_append,List.take_append_drop]
 omega
theorem QcU {w:World}{X:Nat}{A B:Option Addr}{n c m d:Nat}{t:TypeId}{fr:Nat × Nat}(hB:w.heap[X]? =some (.cells #[.slice A n c,.slice B m d] t fr)):
 w.cell? ⟨X,0,none⟩=some (.slice A n c)∧w.cell? ⟨X,1,none⟩=some (.slice B m d):=⟨cell_of_row w _ 0 _ _ _ hB,cell_of_row w _ 1 _ _ _ hB⟩
theorem count_any (A B:Option Addr)(c d:Nat)(a b:List (List Word))(w:World)(ha:Sl w (fun b=>b<w.heap.size) A c a)(hb:Sl w (fun b=>b<w.heap.size) B d b)(hla:a.length≤1048576)(hlb:b.length≤1048576)(ht:tot (a++b)≤9223372036854775807):
 Calls Tryd.prog 8 #[.agg #[.slice A a.length c,.slice B b.length d]] w fun e w'=>e=.returned (.int .i64 (tot (a++b):Int))∧Below w.heap.size w w':=by
 have hb0:=((Below.refl w.heap.size w).alloc nL (.cells #[.slice A a.length c,.slice B b.length d] 38));have hb1:=hb0.alloc (by simp) (.cells #[.slice A a.length c,.slice B b.length d] 36);have Hb1:=Lh hb1;have Ha:=Lh (ha.to hb1);have Hb:=Lh (hb.to hb1);have q0:((w.alloc (.cells #[.slice A a.length c,.slice B b.length d] 38)).alloc (.cells #[.slice A a.length c,.slice B b.length d] 36)).cell? ⟨w.heap.size+1,0,none⟩=some (.slice A a.length c):=by go_simp
 have q1:((w.alloc (.cells #[.slice A a.length c,.slice B b.length d] 38)).alloc (.cells #[.slice A a.length c,.slice B b.length d] 36)).cell? ⟨w.heap.size+1,1,none⟩=some (.slice B b.length d):=by go_simp
 have Q0:=Lh q0;have Q1:=Lh q1;clear ha hb hb0 hb1 q0 q1;go_enter Tryd.func8,Tryd.ntmps8;go_wp2_with fail;refine(concat_any _ A B c d a b _ Q0.out Q1.out Ha.out Hb.out hla hlb).mono ?_;rintro e w1 ⟨v,rfl,hown,hbb⟩;obtain⟨A1,c1,rfl,hs⟩:=hown.sl;have hll:(a++b).length≤2097152:=by simp;omega
 generalize hl:a++b=l at*;have HL:=Lh hl;clear hl;have Hs:=Lh hs;have Hbb:=Lh (Hb1.out.trans (hbb.mono Hb1.out.size));clear hs hown hbb Ha Hb Q0 Q1 Hb1;go_wp2_with fail;go_loop [3,5,13] (fun n _ i=>∃k:Nat,k≤l.length∧i=.int .i64 k∧n=.int .i64 (tot (l.take k):Int)) (fun _ _ i=>l.length-(intOf i).toNat);(case atStart=>exact⟨0,Nat.zero_le _,rfl,rfl⟩);case round=>
  obtain⟨k,hk,rfl,rfl⟩:=hrel;by_cases hlt:k<l.length
  ·obtain⟨b,o,Ap,cp,rfl,_,hbl,hc,hp⟩:=Qbw Hs.out hlt;have hkl:(k:Int)<(l.length:Int):=(by omega);have hk0:(0:Int)≤(k:Int):=(by omega);have HT:=Lh (QcV l k hlt);have h1:=tot_le l (k+1);have h2:tot (l.take k)+l[k].length≤9223372036854775807:=(by have:=HT.out;omega);generalize tot (l.take k)=T at*;clear hp h1;go_wp2_with fail;go_round;(case rel=>exact⟨k+1,by omega,by go_num,by rw[HT.out];go_num⟩);case measure=>simp[intOf];omega
  ·have E:=Lh (show tot (l.take k)=tot l by rw[List.take_of_length_le (by omega)]);go_wp2_with fail;go_ret;exact⟨Qae (by rw[E.out,HL.out]),Hbb.out⟩
def Word.val (x:Word):Value:=.agg #[.string x.s,.string x.key,.int .i64 x.t,.int .i64 x.n]
end Go.Proofs.YtegaapiocihcpaaDoor
