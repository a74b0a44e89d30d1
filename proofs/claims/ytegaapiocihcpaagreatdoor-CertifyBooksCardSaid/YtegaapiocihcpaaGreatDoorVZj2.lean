/- Texts of CbC. -/
import Derived.Test.YtegaapiocihcpaaGreatDoorVZj1
import Derived.BigQuiet
import Derived.ArgAppend
import Derived.Deep.CutRange
import Derived.Shelf.Strings.Builder1
import Derived.Shelf.Strings.Builder2
import Derived.Shelf.Strings.OnBuilder
import Derived.Shelf.Small.Bits
import Derived.Shelf.Strings.BuilderF
import Derived.Shelf.Strconv.Itoa0
import Derived.Shelf.Strconv.Itoa1
import Derived.Shelf.LaysM
import Derived.Shelf.Strconv.Itoa2
import Derived.Shelf.Strconv.Itoa3
import Derived.Shelf.Strings.Prefix
import Derived.Shelf.Bits.Mul64
import Derived.Shelf.Strings.Repeat
import Derived.Test.YtegaapiocihcpaaGreatDoorProg
import Derived.Lib.ItoaLen
import Derived.Lib.AppendIntMem
import Derived.Test.YtegaapiocihcpaaGreatDoorRows
import Derived.WalkKit
import Derived.ProofKit
import Derived.OpenShut
import Derived.JoinedCond
import Derived.Test.YtegaapiocihcpaaGreatDoorCards
import Derived.Test.YtegaapiocihcpaaGreatDoorTie
import Derived.Deep.DeepHandedRow
set_option maxHeartbeats 1000000
namespace Go.Proofs.YtegaapiocihcpaaGreatDoor
open Go.RowKit
def plainOp:Op→Bool
 |.move _|.assign _|.pick .. |.alloc _|.box .. |.build .. |.buildSlice .. |.load .. |.binOp .. |.unOp .. |.convert .. |.makeInterface .. |.makeFunc .. |.makeSlice .. |.slice .. |.fieldAddr .. |.field .. |.indexAddr .. |.index .. |.extract .. =>true
 |.call c=>match c.callee with
  |.builtin .append|.builtin .cap|.builtin .copy|.builtin .len|.builtin .max|.builtin .min=>true
  |_=>false
 |_=>false
theorem val_run {P:Program}{w w':World}{s:Sem Value}{n:Next}(h:(do let x ←s;pure (Next.value x):Sem Next).run P w=.ok n w'):∃u,n=.value u:=by
 rw[Sem.run_bind] at h;cases hs:s.run P w with
 |ok v w1=>rw[hs] at h;simp only[Result.andThen_ok,Sem.run_pure] at h;cases h;exact⟨_,rfl⟩
 |halt x w1=>rw[hs] at h;simp only[Result.andThen] at h;cases h
theorem plain_run {P:Program}{ρ:Operand→Value}{o:Oper}(hp:plainOp o.op=true){w w':World}{n:Next}(h:(execOp ρ o).run P w=.ok n w'):∃u,n=.value u:=by
 obtain⟨dst,op,ty,pos,after,guard⟩:=o;cases op<;>first|(exfalso;revert hp;simp[plainOp];done)|skip
 case call c=>
  obtain⟨callee,args,ats⟩:=c;cases callee with
  |builtin b=>
   simp only at hp;simp only[execOp,resolve,Sem.run_bind,Sem.run_pure,Result.andThen_ok,invoke] at h;cases b<;>first|exact val_run h|exact absurd hp (show ¬(false=true) by decide)
  |value f=>exact absurd hp (show ¬(false=true) by decide)
  |invoke r m=>exact absurd hp (show ¬(false=true) by decide)
 case pick c a b=>
  simp only[execOp] at h;rw[Sem.run_bind] at h;cases hs:(asBool (ρ c)).run P w with
  |ok v w1=>rw[hs] at h;simp only[Result.andThen_ok] at h;cases v<;>(simp only[Sem.run_pure] at h;cases h;exact⟨_,rfl⟩)
  |halt x w1=>rw[hs] at h;simp only[Result.andThen] at h;cases h
 all_goals first|exact val_run h|(simp only[execOp,Sem.run_pure] at h;cases h;exact⟨_,rfl⟩)
structure SPR (Rl:World→World→Prop) where
 p:Value→World→Prop
 st:∀v w w',p v w→Rl w w'→p v w'
abbrev Newer:World→World→Prop:=fun w w'=>Below w.heap.size w w'
abbrev SP:=SPR Newer
section
variable {P:Program} {ops:Array Oper} {Q:Exit→Act→World→Prop} {md:Region.Mode} {C:World→Prop} {hs:List Nat} {Rl:World→World→Prop} {Φ:Nat→SPR Rl} {m:Nat}
def Qd1 (G:Nat→World→Prop)(i:Nat)(φ:World→Prop):Nat→World→Prop:=fun k=>if k=i then φ else G k
theorem updG_same (G:Nat→World→Prop)(i:Nat)(φ:World→Prop):Qd1 G i φ i=φ:=if_pos rfl
theorem Qd9 {G:Nat→World→Prop}{i k:Nat}{φ:World→Prop}(h:k≠i):Qd1 G i φ k=G k:=if_neg h
theorem updG_comm {G:Nat→World→Prop}{i j:Nat}{φ ψ:World→Prop}(h:i≠j):Qd1 (Qd1 G i φ) j ψ=Qd1 (Qd1 G j ψ) i φ:=by
 funext k;unfold Qd1;by_cases h1:k=j
 ·subst h1;simp[Ne.symm h]
 ·simp[h1]
def RelyA (P:Program)(o:Oper)(a:Act)(w:World)(R:Value→World→Prop):Prop:=∀Q:Exit→Act→World→Prop,o.wp P a w (fun a' w'=>∃v,a'=a.put o.dst v∧R v w') Q
theorem put_df (a:Act)(x:Option Tmp)(v:Value):(a.put x v).defers=a.defers:=by cases x<;>rfl
theorem put_inj {a:Act}{x y:Option Tmp}{v0 u v:Value}(hxy:∀d,x=some d→y≠some d)(h:(a.put x v0).put y u=(a.put x v0).put y v):a.put y u=a.put y v:=by
 cases y with
 |none=>rfl
 |some e=>
  cases x with
  |none=>exact h
  |some d=>
   have hne:d≠e:=fun he=>hxy d rfl (he▸rfl)
   obtain⟨tmps,df⟩:=a;simp only[Act.put,Act.mk.injEq] at h ⊢;refine⟨?_,h.2⟩;apply Array.ext_getElem?;intro i;have h1:=congrArg (fun t:Array Value=>t[i]?) h.1;by_cases hi:e=i
   ·subst hi;simpa[Array.getElem?_setIfInBounds] using h1
   ·rw[Array.getElem?_setIfInBounds_ne hi,Array.getElem?_setIfInBounds_ne hi]
theorem RelyA.unput {o:Oper}{a:Act}{x:Option Tmp}{v0:Value}{w:World}{R:Value→World→Prop}(hs:∀cs b,o.op≠.select cs b)(h1:∀d,x=some d→d∉o.looksAt ops)(h2:∀d,x=some d→o.dst≠some d)(h:RelyA P o (a.put x v0) w R):RelyA P o a w R:=by
 intro Q;have h:=h (fun e a' w'=>Q e a w');unfold Oper.wp at*;rw[execOp_put (ops:=ops) o hs a x v0 h1] at h;generalize (execOp a.eval o).run P w=r at*;cases r with
 |ok n w'=>
  cases n<;>simp only[Oper.upon] at h ⊢;(case value u=>obtain⟨v,e,r⟩:=h;exact⟨v,put_inj h2 e,r⟩);(case skip=>obtain⟨v,e,r⟩:=h;exact⟨v,put_inj h2 e,r⟩);case defer d=>
   obtain⟨v,e,r⟩:=h;have:=congrArg (fun t:Act=>t.defers.length) e;simp only[put_df,qC] at this;omega
  case enter f args=>
   refine Calls.mono h fun e w'' he=>?_
   cases e with
   |returned u=>obtain⟨v,e,r⟩:=he;exact⟨v,put_inj h2 e,r⟩
   |panicked c=>exact he
   |outgrown=>obtain⟨a',w',q⟩:=he;exact⟨a,w',q⟩
  case row row args=>exact Rows.mono h fun u w'' he=>by obtain⟨v,e,r⟩:=he;exact⟨v,put_inj h2 e,r⟩
 |halt x w'=>cases x<;>simp only[Oper.upon] at h ⊢;exact h
def StillA (P:Program)(o:Oper)(a:Act)(C:World→Prop)(v:Value):Prop:=∀w,C w→(execOp a.eval o).run P w=.ok (.value v) w
def FixA (P:Program)(ops:Array Oper)(o:Oper)(a:Act)(C:World→Prop)(v:Value):Prop:=
 (Region.wanted o (yielded ops a.tmps)=true∧StillA P o a C v)∨(Region.wanted o (yielded ops a.tmps)=false∧v=undef)
def busy (ops:Array Oper)(hs:List Nat)(j:Nat)(o:Oper)(a:Act):Bool:=hs.contains j&&Region.wanted o (yielded ops a.tmps)
theorem FixA.uniq {o:Oper}{a:Act}{u v:Value}{w:World}(hw:C w)(h:FixA P ops o a C u)(k:FixA P ops o a C v):u=v:=by
 rcases h with⟨h1,h2⟩|⟨h1,h2⟩<;>rcases k with⟨k1,k2⟩|⟨k1,k2⟩
 ·have:=(h2 w hw).symm.trans (k2 w hw);cases this;rfl
 ·rw[h1] at k1;cases k1
 ·rw[h1] at k1;cases k1
 ·rw[h2,k2]
theorem FixA.same {o:Oper}{a a':Act}{v:Value}(he:execOp a'.eval o=execOp a.eval o)(hw:Region.wanted o (yielded ops a'.tmps)=Region.wanted o (yielded ops a.tmps))(h:FixA P ops o a C v):FixA P ops o a' C v:=by
 unfold FixA StillA at *;rw[he,hw];exact h
def Safe (P:Program)(md:Region.Mode)(ops:Array Oper)(C:World→Prop){Rl:World→World→Prop}(Φ:Nat→SPR Rl)(j:Nat)(o:Oper)(a:Act)(G:Nat→World→Prop):Prop:=
 ∀w,C w→(∀k,Qbh md ops k ops.size j=true→G k w)→RelyA P o a w (fun v w'=>Rl w w'∧(Φ j).p v w')
def Joint (C:World→Prop)(G:Nat→World→Prop)(φ:World→Prop):Prop:=∃w,C w∧(∀k,G k w)∧φ w
def rOp (P:Program)(md:Region.Mode)(ops:Array Oper)(C:World→Prop)(hs:List Nat){Rl:World→World→Prop}(Φ:Nat→SPR Rl)(j:Nat)(K:Act→(Nat→World→Prop)→Prop)(a:Act)(G:Nat→World→Prop):Prop:=
 ∀o,ops[j]? =some o→ (busy ops hs j o a=false→∃v,FixA P ops o a C v∧K (a.put o.dst v) G)∧ (busy ops hs j o a=true→Safe P md ops C Φ j o a G∧∀v,Joint C G ((Φ j).p v)→K (a.put o.dst v) (Qd1 G j ((Φ j).p v)))
def QdW (P:Program)(md:Region.Mode)(ops:Array Oper)(Q:Exit→Act→World→Prop)(C:World→Prop)(hs:List Nat){Rl:World→World→Prop}(Φ:Nat→SPR Rl)(m:Nat):Nat→Array Bool→Act→(Nat→World→Prop)→Prop
 |0,listed,a,G=>∀w,C w→(∀k,G k w)→wpAny P md ops Q 0 listed a w
 |fuel+1,listed,a,G=>
  ((∀k,k<m→listed.getD k false=true)→∀w,C w→(∀k,G k w)→wpAny P md ops Q (fuel+1) listed a w)∧
  (¬(∀k,k<m→listed.getD k false=true)→(Region.ready md ops listed=[]→∀w,C w→(∀k,G k w)→Q .normal a w)∧ ∀j∈Region.ready md ops listed,rOp P md ops C hs Φ j (QdW P md ops Q C hs Φ m fuel (listed.setIfInBounds j true)) a G)
theorem wpOp_of_rOp (hcl:∀w w',C w→Rl w w'→C w'){G:Nat→World→Prop}(hG:∀k w w',G k w→Rl w w'→G k w'){j:Nat}{K:Act→(Nat→World→Prop)→Prop}{K':Act→World→Prop}{a:Act}{w:World} (hj:∃o,ops[j]? =some o) (hC:C w) (hg:∀k,G k w) (h:rOp P md ops C hs Φ j K a G) (hK:∀a' G' w',C w'→(∀k w w',G' k w→Rl w w'→G' k w')→(∀k,G' k w')→K a' G'→K' a' w'):wpOp P ops Q j K' a w:=by
 obtain⟨o,ho⟩:=hj;obtain⟨h1,h2⟩:=h o ho;unfold wpOp;rw[ho];dsimp only;cases hb:busy ops hs j o a with
 |false=>
  obtain⟨v,hf,hk⟩:=h1 hb;rcases hf with⟨hw,hv⟩|⟨hw,rfl⟩
  ·rw[if_pos hw];refine .inl ?_;unfold Oper.wp;rw[hv w hC];exact hK _ _ _ hC hG hg hk
  ·rw[if_neg (by rw[hw];simp)];exact hK _ _ _ hC hG hg hk
 |true=>
  obtain⟨hsafe,hk⟩:=h2 hb;rw[if_pos (by unfold busy at hb;simp only[Bool.and_eq_true] at hb;exact hb.2)];refine .inl (Oper.wp_mono ?_ (hsafe w hC (fun k _=>hg k) Q));rintro a' w' ⟨v,rfl,hbl,hp⟩;have hC':=hcl w w' hC hbl;have hG':∀k,G k w':=fun k=>hG k w w' (hg k) hbl
  refine hK _ _ _ hC' ?_ ?_ (hk v ⟨w',hC',hG',hp⟩)
  ·intro k x x' hx hxb;unfold Qd1 at*;split
   ·rename_i e;rw[if_pos e] at hx;exact(Φ j).st _ _ _ hx hxb
   ·rename_i e;rw[if_neg e] at hx;exact hG k x x' hx hxb
  ·intro k;unfold Qd1;split
   ·exact hp
   ·exact hG' k
theorem wpAny_of_R (hcl:∀w w',C w→Rl w w'→C w'):∀(fuel:Nat) (listed:Array Bool) (a:Act) (G:Nat→World→Prop) (w:World),(∀k w w',G k w→Rl w w'→G k w')→ C w→(∀k,G k w)→QdW P md ops Q C hs Φ m fuel listed a G→wpAny P md ops Q fuel listed a w
 |0,_,_,_,w,_,hC,hg,h=>h w hC hg
 |fuel+1,listed,a,G,w,hG,hC,hg,h=>by
  by_cases hd:∀k,k<m→listed.getD k false=true
  ·exact h.1 hd w hC hg
  ·obtain⟨h1,h2⟩:=h.2 hd;refine⟨fun h0=>h1 h0 w hC hg,fun j hj=>?_⟩;obtain⟨_,oj,hoj,_⟩:=mem_ready.1 hj;exact wpOp_of_rOp hcl hG ⟨oj,hoj⟩ hC hg (h2 j hj) (fun a' G' w' hC' hG' hg' hk=>wpAny_of_R hcl fuel _ a' G' w' hG' hC' hg' hk)
theorem RelyA.put {o:Oper}{a:Act}{x:Option Tmp}{v0:Value}{w:World}{R:Value→World→Prop}(hs:∀cs b,o.op≠.select cs b)(h1:∀d,x=some d→d∉o.looksAt ops)(h2:∀d,x=some d→o.dst≠some d)(h:RelyA P o a w R):RelyA P o (a.put x v0) w R:=by
 intro Q
 have hc:∀u v,a.put o.dst u=a.put o.dst v→(a.put x v0).put o.dst u=(a.put x v0).put o.dst v:=fun u v e=>by
  rw[Act.put_comm a v0 u h2,Act.put_comm a v0 v h2,e]
 have h':=h (fun e _ w'=>Q e (a.put x v0) w');unfold Oper.wp at*;rw[execOp_put (ops:=ops) o hs a x v0 h1];clear h;generalize (execOp a.eval o).run P w=r at*;cases r with
 |ok n w'=>
  cases n<;>simp only[Oper.upon] at h' ⊢;(case value u=>obtain⟨v,e,r⟩:=h';exact⟨v,hc _ _ e,r⟩);(case skip=>obtain⟨v,e,r⟩:=h';exact⟨v,hc _ _ e,r⟩);case defer d=>
   obtain⟨v,e,r⟩:=h';have:=congrArg (fun t:Act=>t.defers.length) e;simp only[put_df,qC] at this;omega
  case enter f args=>
   refine Calls.mono h' fun e w'' he=>?_
   cases e with
   |returned u=>obtain⟨v,e,r⟩:=he;exact⟨v,hc _ _ e,r⟩
   |panicked c=>exact he
   |outgrown=>obtain⟨a',w',q⟩:=he;exact⟨a.put x v0,w',q⟩
  case row row args=>exact Rows.mono h' fun u w'' he=>by obtain⟨v,e,r⟩:=he;exact⟨v,hc _ _ e,r⟩
 |halt x w'=>cases x<;>simp only[Oper.upon] at h' ⊢;exact h'
theorem RelyA.ex {o:Oper}{a:Act}{w:World}{R:Value→World→Prop}(h:RelyA P o a w R):∃v w',R v w':=by
 have h:=h (fun _ _ _=>False);unfold Oper.wp at h;generalize (execOp a.eval o).run P w=r at*;cases r with
 |ok n w'=>
  cases n<;>simp only[Oper.upon] at h;(case value u=>obtain⟨v,e,r⟩:=h;exact⟨v,w',r⟩);(case skip=>obtain⟨v,e,r⟩:=h;exact⟨v,w',r⟩);(case defer d=>obtain⟨v,e,r⟩:=h;exact⟨v,w',r⟩);case enter f args=>
   obtain⟨e,w2,_,he,_⟩:=h [];cases e with
   |returned u=>obtain⟨v,e,r⟩:=he;exact⟨v,w2,r⟩
   |panicked c=>exact he.elim
   |outgrown=>obtain⟨_,_,q⟩:=he;exact q.elim
  case row row args=>obtain⟨v,w2,⟨v',e,r⟩,_⟩:=h (Frame.enter P 0 #[] .normal) [];exact⟨v',w2,r⟩
 |halt x w'=>cases x<;>simp only[Oper.upon] at h
theorem wpAnyR_first (hcl:∀w w',C w→Rl w w'→C w'){i:Nat}{oi:Oper}(hi:ops[i]? =some oi)(him:i<m)(hsel:∀(j:Nat) (o:Oper) cs b,ops[j]? =some o→o.op≠.select cs b) (htail:∀j oj,ops[j]? =some oj→m≤j→∃f,Qbh md ops i f j=true):
 ∀(fuel:Nat) (listed:Array Bool) (a:Act) (G:Nat→World→Prop),Closed md ops listed→(∀k,listed.getD k false=false→∀w,G k w)→(∀k w w',G k w→Rl w w'→G k w')→(∃w,C w∧∀k,G k w)→ (∀j oj,ops[j]? =some oj→j≠i→listed.getD j true=false→(∀e∈oj.after,Region.binds md e=true→e.on≠i)→oi.apart ops oj=true)→ i∈Region.ready md ops listed→rOp P md ops C hs Φ i (QdW P md ops Q C hs Φ m fuel (listed.setIfInBounds i true)) a G→ QdW P md ops Q C hs Φ m (fuel+1) listed a G:=by
 have unl:∀(listed:Array Bool) (j:Nat),j∈Region.ready md ops listed→listed.getD j false=false∧j<listed.size:=fun listed j hj=>by
  have:=(mem_ready.1 hj).1;rcases Nat.lt_or_ge j listed.size with h'|h'
  ·refine⟨?_,h'⟩;simp[h'] at this ⊢;exact this
  ·simp[Array.getElem?_eq_none h'] at this
 intro fuel;induction fuel with
 |zero=>
  intro listed a G hC hT hG hne hfree hr H;refine⟨fun h=>absurd (h i him) (by rw[(unl _ _ hr).1];simp),fun _=>⟨fun h0=>(by rw[h0] at hr;cases hr),fun j hj=>?_⟩⟩;by_cases hji:j=i
  ·subst hji;exact H
  ·exfalso;have hj':=ready_mono hj hji;obtain⟨w0,hC0,hg0⟩:=hne;cases hb:busy ops hs i oi a with
   |false=>
    obtain⟨v,_,hk⟩:=(H oi hi).1 hb;rw[(hk w0 hC0 hg0).1] at hj';cases hj'
   |true=>
    obtain⟨hsf,hk⟩:=(H oi hi).2 hb;obtain⟨v,w1,hb1,hp⟩:=(hsf w0 hC0 (fun k _=>hg0 k)).ex;have hC1:=hcl _ _ hC0 hb1;have hg1:∀k,G k w1:=fun k=>hG k _ _ (hg0 k) hb1
    have:=hk v ⟨w1,hC1,hg1,hp⟩ w1 hC1 (fun k=>by unfold Qd1;split;exact hp;exact hg1 k);rw[this.1] at hj';cases hj'
 |succ fuel ih=>
  intro listed a G hC hT hG hne hfree hr H;refine⟨fun h=>absurd (h i him) (by rw[(unl _ _ hr).1];simp),fun _=>⟨fun h0=>(by rw[h0] at hr;cases hr),fun j hj=>?_⟩⟩;by_cases hji:j=i
  ·subst hji;exact H
  obtain⟨hjun,oj,hoj,hall⟩:=mem_ready.1 hj;have hiu:=(unl _ _ hr).1;have hju:=(unl _ _ hj).1
  have hnot:∀e∈oj.after,Region.binds md e=true→e.on≠i:=fun e he hb heq=>by
   have h1:=hall e he hb;rw[heq,hiu] at h1;cases h1
  have hwij:∀f k,Qbh md ops k f j=true→k≠i:=fun f k hk he=>by
   subst he;have:=Qby hC f j hk (QcX hj);rw[hiu] at this;cases this
  have hwji:∀f k,Qbh md ops k f i=true→k≠j:=fun f k hk he=>by
   subst he;have:=Qby hC f i hk (QcX hr);rw[hju] at this;cases this
  have hjm:j<m:=by
   rcases Nat.lt_or_ge j m with h|h
   ·exact h
   ·obtain⟨f,hf⟩:=htail j oj hoj h;exact absurd rfl (hwij f i hf)
  obtain⟨h1,h2,h3⟩:=Oper.apart_spec (hfree j oj hoj hji hjun hnot);have hsj:=fun cs b=>hsel j oj cs b hoj
  have hsi:=fun cs b=>hsel i oi cs b hi
  have h2':∀d,oj.dst=some d→oi.dst≠some d:=fun d hd he=>h2 d he hd
  have bj:∀v,busy ops hs j oj (a.put oi.dst v)=busy ops hs j oj a:=fun v=>by unfold busy;rw[wanted_put oj a oi.dst v h1]
  have bi:∀u,busy ops hs i oi (a.put oj.dst u)=busy ops hs i oi a:=fun u=>by unfold busy;rw[wanted_put oi a oj.dst u h3]
  have fj:∀v u,FixA P ops oj (a.put oi.dst v) C u→FixA P ops oj a C u:=fun v u h=>h.same (execOp_put oj hsj a oi.dst v h1).symm (wanted_put oj a oi.dst v h1).symm
  have fi:∀u v,FixA P ops oi a C v→FixA P ops oi (a.put oj.dst u) C v:=fun u v h=>h.same (execOp_put oi hsi a oj.dst u h3) (wanted_put oi a oj.dst u h3)
  have hlij:(listed.setIfInBounds i true).setIfInBounds j true=(listed.setIfInBounds j true).setIfInBounds i true:=Array.setIfInBounds_comm _ _ (Ne.symm hji)
  have hnext:∀a' G',QdW P md ops Q C hs Φ m (fuel+1) (listed.setIfInBounds i true) a' G'→rOp P md ops C hs Φ j (QdW P md ops Q C hs Φ m fuel ((listed.setIfInBounds j true).setIfInBounds i true)) a' G':=fun a' G' h=>by
   rw[←hlij];refine(h.2 (fun hd=>?_)).2 j (ready_mono hj hji);have:=hd j hjm;rw[Go.getD_set_ne false (Ne.symm hji),hju] at this;cases this
  have hfree':∀k ok,ops[k]? =some ok→k≠i→(listed.setIfInBounds j true).getD k true=false→ (∀e∈ok.after,Region.binds md e=true→e.on≠i)→oi.apart ops ok=true:=fun k ok hk hki hun hno=>by
   refine hfree k ok hk hki ?_ hno;by_cases hjk:j=k
   ·subst hjk;exact hjun
   ·rw[Go.getD_set_ne true hjk] at hun;exact hun
  have hT1:∀k,(listed.setIfInBounds j true).getD k false=false→k≠j∧listed.getD k false=false:=fun k hk=>by
   by_cases hjk:j=k
   ·subst hjk;simp[(unl _ _ hj).2] at hk
   ·rw[Go.getD_set_ne false hjk] at hk;exact⟨Ne.symm hjk,hk⟩
  have IH:=fun a' G'=>ih (listed.setIfInBounds j true) a' G' (hC.set hj)
  have hrd:=ready_mono hr (Ne.symm hji);have hTG:∀k,(listed.setIfInBounds j true).getD k false=false→∀w,G k w:=fun k hk=>hT k (hT1 k hk).2
  have hTU:∀φ:World→Prop,∀k,(listed.setIfInBounds j true).getD k false=false→∀w,Qd1 G j φ k w:=fun φ k hk w=>by
   rw[Qd9 (hT1 k hk).1];exact hT k (hT1 k hk).2 w
  have hGU:∀u,∀k w w',Qd1 G j ((Φ j).p u) k w→Rl w w'→Qd1 G j ((Φ j).p u) k w':=fun u k x x' hx hxb=>by
   unfold Qd1 at*;split
   ·rename_i e;rw[if_pos e] at hx;exact(Φ j).st _ _ _ hx hxb
   ·rename_i e;rw[if_neg e] at hx;exact hG k x x' hx hxb
  have hJne:∀u,Joint C G ((Φ j).p u)→∃w,C w∧∀k,Qd1 G j ((Φ j).p u) k w:=fun u ⟨w,c,g,p⟩=>⟨w,c,fun k=>by unfold Qd1;split;exact p;exact g k⟩
  obtain⟨w0,hC0,hg0⟩:=hne;intro o ho;obtain rfl:oj=o:=Option.some.inj (hoj.symm.trans ho);cases hbi:busy ops hs i oi a with
  |false=>
   obtain⟨v,hfi,hK⟩:=(H oi hi).1 hbi;have hj':=hnext _ _ hK oj hoj;rw[bj] at hj';refine⟨fun hbj=>?_,fun hbj=>?_⟩
   ·obtain⟨u,hfj,hKj⟩:=hj'.1 hbj;refine⟨u,fj _ _ hfj,IH _ _ hTG hG ⟨w0,hC0,hg0⟩ hfree' hrd ?_⟩;intro o' ho';obtain rfl:oi=o':=Option.some.inj (hi.symm.trans ho');refine⟨fun _=>⟨v,fi _ _ hfi,?_⟩,fun hb=>?_⟩
    ·rw[←Act.put_comm a v u h2];exact hKj
    ·rw[bi,hbi] at hb;cases hb
   ·obtain⟨hsafe,hKj⟩:=hj'.2 hbj;refine⟨fun w hw hf=>(hsafe w hw hf).unput hsj h1 h2,fun u hu=>IH _ _ (hTU _) (hGU u) (hJne u hu) hfree' hrd ?_⟩;intro o' ho';obtain rfl:oi=o':=Option.some.inj (hi.symm.trans ho');refine⟨fun _=>⟨v,fi _ _ hfi,?_⟩,fun hb=>?_⟩
    ·rw[←Act.put_comm a v u h2];exact hKj u hu
    ·rw[bi,hbi] at hb;cases hb
  |true=>
   obtain⟨hsf,hK⟩:=(H oi hi).2 hbi;obtain⟨v0,w1,hb1,hp1⟩:=(hsf w0 hC0 (fun k _=>hg0 k)).ex;have hj0:=hnext _ _ (hK v0 ⟨w1,hcl _ _ hC0 hb1,fun k=>hG k _ _ (hg0 k) hb1,hp1⟩) oj hoj;rw[bj] at hj0;refine⟨fun hbj=>?_,fun hbj=>?_⟩
   ·obtain⟨u,hfj,_⟩:=hj0.1 hbj;refine⟨u,fj _ _ hfj,IH _ _ hTG hG ⟨w0,hC0,hg0⟩ hfree' hrd ?_⟩;intro o' ho';obtain rfl:oi=o':=Option.some.inj (hi.symm.trans ho');refine⟨fun hb=>?_,fun _=>⟨fun w hw hf=>(hsf w hw hf).put hsi h3 h2',fun v hv=>?_⟩⟩
    ·rw[bi,hbi] at hb;cases hb
    ·have hjv:=hnext _ _ (hK v hv) oj hoj;rw[bj] at hjv;obtain⟨u',hfj',hk'⟩:=hjv.1 hbj;obtain rfl:=(fj _ _ hfj').uniq hC0 (fj _ _ hfj);rw[←Act.put_comm a v u' h2];exact hk'
   ·obtain⟨hsj0,_⟩:=hj0.2 hbj;refine⟨fun w hw hf=>(hsj0 w hw (fun k hk=>by rw[Qd9 (hwij _ k hk)];exact hf k hk)).unput hsj h1 h2,fun u hu=>IH _ _ (hTU _) (hGU u) (hJne u hu) hfree' hrd ?_⟩;intro o' ho';obtain rfl:oi=o':=Option.some.inj (hi.symm.trans ho');refine⟨fun hb=>?_,fun _=>⟨fun w hw hf=>(hsf w hw (fun k hk=>by have:=hf k hk;rwa [Qd9 (hwji _ k hk)] at this)).put hsi h3 h2',fun v hv=>?_⟩⟩
    ·rw[bi,hbi] at hb;cases hb
    ·obtain⟨w3,hC3,hg3,hp3⟩:=hv
     have hg4:∀k,G k w3:=fun k=>by
      by_cases hkj:k=j
      ·subst hkj;exact hT k hju w3
      ·have:=hg3 k;rwa [Qd9 hkj] at this
     have hjv:=hnext _ _ (hK v ⟨w3,hC3,hg4,hp3⟩) oj hoj;rw[bj] at hjv;have:=(hjv.2 hbj).2 u ⟨w3,hC3,fun k=>by unfold Qd1;split;exact hp3;exact hg4 k,by have:=hg3 j;rwa [updG_same] at this⟩;rw[←Act.put_comm a v u h2,updG_comm hji];exact this
def kind (hs:List Nat)(m k:Nat):Nat:=if Nat.beq k m then 2 else if hs.contains k then 1 else 0
def wpR (P:Program)(md:Region.Mode)(ops:Array Oper)(C:World→Prop)(hs:List Nat){Rl:World→World→Prop}(Φ:Nat→SPR Rl)(m:Nat)(fin:Act→(Nat→World→Prop)→Prop):List Oper→Nat→Act→(Nat→World→Prop)→Prop
 |[],_,a,G=>fin a G
 |o::l,k,a,G=>
  if kind hs m k=2 then fin a G
  else if Region.wanted o (yielded ops a.tmps)=true then
   if kind hs m k=1 then Safe P md ops C Φ k o a G∧∀v,Joint C G ((Φ k).p v)→wpR P md ops C hs Φ m fin l (k+1) (a.put o.dst v) (Qd1 G k ((Φ k).p v))
   else o.quiet P a C (fun a'=>wpR P md ops C hs Φ m fin l (k+1) a' G)
  else wpR P md ops C hs Φ m fin l (k+1) (a.put o.dst undef) G
structure WR (P:Program)(md:Region.Mode)(ops:Array Oper)(C:World→Prop){Rl:World→World→Prop}(hs:List Nat)(Φ:Nat→SPR Rl)(m:Nat)(fin:Act→(Nat→World→Prop)→Prop)(l:List Oper)(k:Nat)(a:Act)(G:Nat→World→Prop):Prop where
 h:wpR P md ops C hs Φ m fin l k a G
def lst (n:Nat):Nat→Array Bool
 |0=>Array.replicate n false
 |k+1=>(lst n k).setIfInBounds k true
theorem lst_size (n:Nat):∀k,(lst n k).size=n
 |0=>by simp[lst]
 |k+1=>by rw[lst,Array.size_setIfInBounds];exact lst_size n k
theorem lst_get (n:Nat):∀k j,j<n→(lst n k).getD j false=decide (j<k)
 |0,j,hj=>by simp[lst,hj]
 |k+1,j,hj=>by
  by_cases h:k=j
  ·subst h;have:k<(lst n k).size:=(by rw[lst_size];exact hj);simp[lst,this]
  ·rw[lst,Go.getD_set_ne false h,lst_get n k j hj];congr 1;simp only[eq_iff_iff];omega
def relyB (md:Region.Mode)(ops:Array Oper)(hs:List Nat)(m:Nat):Bool:=
 Region.noSelect ops&&Nat.ble m ops.size&&(List.range m).all (fun k=>(Region.ready md ops (lst ops.size k)).contains k&&Region.free md ops (lst ops.size k) k&&(hs.contains k||((ops[k]?).map fun o=>plainOp o.op).getD false))&& (List.range ops.size).all (fun j=>Nat.blt j m||(List.range m).all fun i=>Qbh md ops i ops.size j)
theorem wpAnyR_lex (hcl:∀w w',C w→Rl w w'→C w')(hB:relyB md ops hs m=true):∀(l:List Oper) (k:Nat) (a:Act) (G:Nat→World→Prop),(∀j,l[j]? =ops[k+j]?)→k≤m→Closed md ops (lst ops.size k)→ (∀j,(lst ops.size k).getD j false=false→∀w,G j w)→(∀k w w',G k w→Rl w w'→G k w')→(∃w,C w∧∀k,G k w)→ wpR P md ops C hs Φ m (fun a G=>∀w,C w→(∀k,G k w)→wpAny P md ops Q (ops.size-m) (lst ops.size m) a w) l k a G→QdW P md ops Q C hs Φ m (ops.size-k) (lst ops.size k) a G:=by
 unfold relyB at hB;rw[Bool.and_eq_true,Bool.and_eq_true,Bool.and_eq_true] at hB;obtain⟨⟨⟨hns,hmn⟩,hall⟩,htl⟩:=hB;have hmn:m≤ops.size:=Nat.le_of_ble_eq_true hmn
 have htail:∀i,i<m→∀j oj,ops[j]? =some oj→m≤j→∃f,Qbh md ops i f j=true:=fun i hi j oj hj hmj=>by
  have h1:=(List.all_eq_true.1 htl) j (List.mem_range.2 (Array.getElem?_eq_some_iff.1 hj).1);rw[Bool.or_eq_true] at h1;rcases h1 with h1|h1
  ·have:=of_decide_eq_true (p:=j<m) (by simpa[Nat.blt_eq] using h1);omega
  ·exact⟨_,(List.all_eq_true.1 h1) i (List.mem_range.2 hi)⟩
 have fin:∀a G,(∀w,C w→(∀k,G k w)→wpAny P md ops Q (ops.size-m) (lst ops.size m) a w)→QdW P md ops Q C hs Φ m (ops.size-m) (lst ops.size m) a G:=by
  intro a G h;generalize hn:ops.size-m=r at h;cases r with
  |zero=>exact h
  |succ r=>exact⟨fun _=>h,fun hd=>absurd (fun k hk=>by rw[lst_get _ _ _ (by omega)];simpa using hk) hd⟩
 intro l;induction l with
 |nil=>
  intro k a G hl hkm hC hT hG hne h;have:k=m:=by
   rcases Nat.lt_or_ge k m with h'|h'
   ·have h1:=hl 0;rw[Nat.add_zero,Array.getElem?_eq_getElem (show k<ops.size by omega)] at h1;cases h1
   ·omega
  subst this;exact fin a G h
 |cons o l ih=>
  intro k a G hl hkm hC hT hG hne h;have h0:ops[k]? =some o:=(by simpa using(hl 0).symm);have hks:k<ops.size:=(Array.getElem?_eq_some_iff.1 h0).1;rw[wpR] at h;by_cases hk:k=m
  ·subst hk;rw[if_pos (by simp[kind])] at h;exact fin a G h
  ·have hkn:Nat.beq k m=false:=by
    cases h:Nat.beq k m with
    |false=>rfl
    |true=>exact absurd (Nat.eq_of_beq_eq_true h) hk
   have hlt:k<m:=(by omega);have h1:=(List.all_eq_true.1 hall) k (List.mem_range.2 hlt);rw[Bool.and_eq_true,Bool.and_eq_true,h0,Option.map_some,Option.getD_some] at h1;obtain⟨⟨hr,hf⟩,hpl⟩:=h1;have hr':k∈Region.ready md ops (lst ops.size k):=(by simpa using hr);rw[if_neg (by unfold kind;rw[hkn];cases hs.contains k<;>decide)] at h;rw[show ops.size-k=(ops.size-(k+1))+1 by omega];have hC1:Closed md ops (lst ops.size (k+1)):=hC.set hr'
   have hT1:∀j,(lst ops.size (k+1)).getD j false=false→j≠k∧(lst ops.size k).getD j false=false:=fun j hj=>by
    by_cases hjk:k=j
    ·subst hjk;rw[lst_get _ _ _ hks] at hj;simp at hj
    ·rw[lst,Go.getD_set_ne false hjk] at hj;exact⟨Ne.symm hjk,hj⟩
   have hTG:∀j,(lst ops.size (k+1)).getD j false=false→∀w,G j w:=fun j hj=>hT j (hT1 j hj).2
   have hl':∀j,l[j]? =ops[k+1+j]? :=fun j=>by have:=hl (j+1);simpa[Nat.add_assoc,Nat.add_comm 1 j] using this
   refine wpAnyR_first hcl h0 hlt (Region.noSelect_spec hns) (htail k hlt) _ _ a G hC hT hG hne (Region.free_spec h0 hf) hr' ?_;intro o' ho';obtain rfl:o=o':=Option.some.inj (h0.symm.trans ho');obtain⟨w0,hC0,hg0⟩:=hne;by_cases hw:Region.wanted o (yielded ops a.tmps)=true
   ·rw[if_pos hw] at h;by_cases hc:hs.contains k=true
    ·rw[if_pos (by unfold kind;rw[hkn,hc];simp)] at h;refine⟨fun hb=>?_,fun _=>⟨h.1,fun v hv=>?_⟩⟩
     ·unfold busy at hb;rw[hc,hw] at hb;cases hb
     ·refine ih (k+1) _ _ hl' hlt hC1 (fun j hj w=>by rw[Qd9 (hT1 j hj).1];exact hT j (hT1 j hj).2 w) ?_ ?_ (h.2 v hv)
      ·intro j x x' hx hxb;unfold Qd1 at*;split
       ·rename_i e;rw[if_pos e] at hx;exact(Φ k).st _ _ _ hx hxb
       ·rename_i e;rw[if_neg e] at hx;exact hG j x x' hx hxb
      ·obtain⟨w1,c,g,p⟩:=hv;exact⟨w1,c,fun j=>by unfold Qd1;split;exact p;exact g j⟩
    ·rw[if_neg (by unfold kind;rw[hkn,if_neg (by simp),if_neg hc];decide)] at h;have hc':hs.contains k=false:=(by simpa using hc);rw[hc',Bool.false_or] at hpl;obtain⟨v,hq,hk'⟩:=h;refine⟨fun _=>⟨v,.inl ⟨hw,fun w hCw=>?_⟩,ih (k+1) _ _ hl' hlt hC1 hTG hG ⟨w0,hC0,hg0⟩ hk'⟩,fun hb=>?_⟩
     ·have h2:=hq w hCw;unfold Oper.quietAt at h2;cases hr2:(execOp a.eval o).run P w with
      |ok n w2=>
       obtain⟨u,rfl⟩:=plain_run hpl hr2;rw[hr2] at h2;obtain⟨rfl,rfl⟩:=h2;rfl
      |halt x w2=>rw[hr2] at h2;exact h2.elim
     ·unfold busy at hb;rw[hc'] at hb;cases hb
   ·rw[if_neg hw] at h;refine⟨fun _=>⟨undef,.inr ⟨by simpa using hw,rfl⟩,ih (k+1) _ _ hl' hlt hC1 hTG hG ⟨w0,hC0,hg0⟩ h⟩,fun hb=>?_⟩;unfold busy at hb;rw[Bool.and_eq_true] at hb;exact absurd hb.2 hw
theorem Qe3 {id:Nat}{a:Act}{w:World}{l:List Oper}(Rl:World→World→Prop)(C:World→Prop)(hC:C w.drew)(hcl:∀x x',C x→Rl x x'→C x')(hs:List Nat)(Φ:Nat→SPR Rl)(m:Nat)(hm:P.follows .mixedOrders=true)(hB:relyB .any l.toArray hs m=true)
 (h:∀(T:Type) (_:Nonempty T) (f:T→World),(∀d,C (f d))→(∀d w',Rl (f d) w'→∃m,w'=f m)→ WR P .any l.toArray (fun w'=>∃n,w'=f n) hs Φ m (fun a' G=>∀n,(∀k,G k (f n))→wpAny P .any l.toArray Q (l.length-m) (lst l.length m) a' (f n)) l 0 a (fun _ _=>True)):(Code.region id l.toArray true).wp P Q a w:=by
 have hh:=(h _ ⟨⟨_,hC⟩⟩ (Subtype.val:{x:World // C x}→World) (fun d=>d.2) (fun d w' hb=>⟨⟨w',hcl _ _ d.2 hb⟩,rfl⟩)).h;have hcl':∀x x':World,(∃n,x=(Subtype.val:{x:World // C x}→World) n)→Rl x x'→∃n,x'=(Subtype.val:{x:World // C x}→World) n:=by
  rintro _ x' ⟨d,rfl⟩ hb;exact⟨⟨x',hcl _ _ d.2 hb⟩,rfl⟩
 have hC0:∃n,({w with drawn:=w.drawn+1}:World)=(Subtype.val:{x:World // C x}→World) n:=⟨⟨_,hC⟩,rfl⟩;refine wp_region_any hm ?_
 have hlex:=wpAnyR_lex (P:=P) (Q:=Q) (Φ:=Φ) hcl' hB l 0 a (fun _ _=>True) (by simp) (Nat.zero_le _) (by
  intro j oj _ hl
  exfalso
  rcases Nat.lt_or_ge j l.toArray.size with h'|h'
  ·rw[lst_get _ _ _ h'] at hl;simp at hl
  ·rw[lst,Array.getD_eq_getD_getElem?,Array.getElem?_eq_none (by simpa using h')] at hl;simp at hl) (fun _ _ _=>trivial) (fun _ _ _ _ _=>trivial) ⟨_,hC0,fun _=>trivial⟩
  (by
    refine cast (congrArg (fun fin=>wpR P .any l.toArray _ hs Φ m fin l 0 a _) ?_) hh
    funext a' G
    apply propext
    constructor
    ·rintro hx _ ⟨n,rfl⟩ hg
     simpa using hx n hg
    ·intro hx n hg
     simpa using hx _ ⟨n,rfl⟩ hg)
 exact wpAny_of_R hcl' _ _ _ _ _ (fun _ _ _ _ _=>trivial) hC0 (fun _=>trivial) (by simpa[lst] using hlex)
theorem Qap {id:Nat}{a:Act}{w:World}{l:List Oper}(hs:List Nat)(Φ:Nat→SP)(m:Nat)(hm:P.follows .mixedOrders=true)(hB:relyB .any l.toArray hs m=true)
 (h:∀(T:Type) (_:Nonempty T) (f:T→World),(∀d,Below w.heap.size w (f d))→(∀d w',Below (f d).heap.size (f d) w'→∃m,w'=f m)→ WR P .any l.toArray (fun w'=>∃n,w'=f n) hs Φ m (fun a' G=>∀n,(∀k,G k (f n))→wpAny P .any l.toArray Q (l.length-m) (lst l.length m) a' (f n)) l 0 a (fun _ _=>True)):(Code.region id l.toArray true).wp P Q a w:=
 Qe3 Newer (fun x=>Below w.heap.size w x) ((Below.refl _ w).drew) (fun x x' hx hb=>hx.trans (Below.mono (show Below x.heap.size x x' from hb) hx.size)) hs Φ m hm hB h
end
section
variable {P:Program} {ops:Array Oper} {Q:Exit→Act→World→Prop} {md:Region.Mode} {C:World→Prop} {hs:List Nat} {Rl:World→World→Prop} {Φ:Nat→SPR Rl} {m:Nat} {fin:Act→(Nat→World→Prop)→Prop} {T:Type} {f:T→World} {a:Act} {G:Nat→World→Prop} {o:Oper} {l:List Oper} {k:Nat}
theorem Qao (hk:kind hs m k=0)(h:∀Kq:Act→Prop,(∀a',WR P md ops C hs Φ m fin l (k+1) a' G→Kq a')→wpQuiet P ops C Kq [o] a):WR P md ops C hs Φ m fin (o::l) k a G:=by
 have h:=h (fun a'=>wpR P md ops C hs Φ m fin l (k+1) a' G) (fun _ h=>h.h);refine⟨?_⟩;rw[wpR,if_neg (by rw[hk];decide),if_neg (show ¬kind hs m k=1 by rw[hk];decide)];exact h
theorem QaG (hk:kind hs m k=1)(hw:Region.wanted o (yielded ops a.tmps)=true) (h1:∀d,(∀i,Qbh md ops i ops.size k=true→G i (f d))→∀(K:Act→World→Prop) (Q:Exit→Act→World→Prop),(∀v w',Rl (f d) w'→(Φ k).p v w'→K (a.put o.dst v) w')→o.wp P a (f d) K Q) (h2:∀v d,(∀i,G i (f d))→(Φ k).p v (f d)→∀Kr:Act→Prop,(∀a',WR P md ops (fun w'=>∃n,w'=f n) hs Φ m fin l (k+1) a' (Qd1 G k ((Φ k).p v))→Kr a')→Kr (a.put o.dst v)):WR P md ops (fun w'=>∃n,w'=f n) hs Φ m fin (o::l) k a G:=by
 refine⟨?_⟩;rw[wpR,if_neg (by rw[hk];decide),if_pos hw,if_pos hk];refine⟨?_,?_⟩
 ·rintro _ ⟨d,rfl⟩ hG Q;exact h1 d hG _ Q (fun v w' hb hp=>⟨v,rfl,hb,hp⟩)
 ·rintro v ⟨_,⟨d,rfl⟩,hG,hp⟩;exact h2 v d hG hp (fun a'=>wpR P md ops (fun w'=>∃n,w'=f n) hs Φ m fin l (k+1) a' (Qd1 G k ((Φ k).p v))) (fun _ h=>h.h)
theorem Qeq {n:Nat}(hr:Region.ready md ops (lst n m)=[])(h:∀d,(∀i,G i (f d))→Q .normal a (f d)):∀r,WR P md ops C hs Φ m (fun a' G=>∀d,(∀i,G i (f d))→wpAny P md ops Q r (lst n m) a' (f d)) [] k a G:=fun r=>⟨fun d hG=>
 wpAny_done hr (h d hG) r⟩
theorem QbZ {n r:Nat}(r':Nat)(hk:kind hs m k=2)(hr:r=r')(h:∀d,(∀i,G i (f d))→wpAny P md ops Q r' (lst n m) a (f d)):WR P md ops C hs Φ m (fun a' G=>∀d,(∀i,G i (f d))→wpAny P md ops Q r (lst n m) a' (f d)) (o::l) k a G:=by
 subst hr;refine⟨?_⟩;rw[wpR,if_pos hk];exact h
theorem QaN {i:Nat}{oi:Oper}{fuel:Nat}{listed:Array Bool}{w:World}(hi:ops[i]? =some oi)(hr:Region.ready md ops listed=[i])(hw:Region.wanted oi (yielded ops a.tmps)=true) (h:∀K:Act→World→Prop,(∀a' w',wpAny P md ops Q fuel (listed.setIfInBounds i true) a' w'→K a' w')→oi.wp P a w K Q):wpAny P md ops Q (fuel+1) listed a w:=by
 refine⟨fun h0=>(by rw[hr] at h0;cases h0),fun j hj=>?_⟩;rw[hr,List.mem_singleton] at hj;subst hj;unfold wpOp;rw[hi];dsimp only;rw[if_pos hw];exact .inl (h _ fun a' w' hs=>hs)
end
section
variable {P:Program} {α:Type} [Rep α]
theorem run_fresh (w:World)(t ty e:TypeId)(z:Value)(bytes:Nat)(ht:P.underlying t=some (.slice e))(hinfo:(P.info? e).map (fun i=>(i.zero,i.size,i.bytes))=some (some z,Rep.size α,bytes)) (hzs:z.cells.size=Rep.size α) (hsz:0<Rep.size α) (A:Option Addr) (n:Nat) (l:List α) (hn:l.length=n) (hl:Sl w (fun b=>b<w.heap.size) A n l) (A':Option Addr) (c m:Nat) (l':List α) (hm:l'.length=m) (hl':Sl w (fun b=>b<w.heap.size) A' c l') (h0:0<m) (hbytes:(n+m)*bytes≤140737488355328) (hml:n+m≤9223372036854775807):
 ∃v' w',(Builtin.append_ #[t,t] ty #[.slice A n n,.slice A' m c]).run P w=.ok v' w'∧Own w' w.heap.size e v' (l++l')∧Below w.heap.size w w':=by
 obtain⟨i,hi,hz,hz1,hz2⟩:=info_parts hinfo;subst hn;subst hm;obtain⟨b',o',news,rfl,hSb',hlt',hnl',hn1',hnc',hnr'⟩:=hl'.flat h0
 have key:∀olds:List Value,olds.length=l.length*Rep.size α→(∀u∈olds,u.oneCell'=true)→(∀i,(h:i<l.length)→Rep.R w (fun b=>b<w.heap.size) ((olds.drop (i*Rep.size α)).take (Rep.size α)) l[i])→ ∀v' w',w'.ownsRow w.heap.size e (Rep.size α) v' (l.length+l'.length) (olds++news)→w.grownBy w' none→(v'.ownBlock=none∨v'.ownBlock=some w.heap.size)→Own w' w.heap.size e v' (l++l')∧Below w.heap.size w w':=by
  intro olds ho1 ho2 ho3 v' w' hw hg hat;have hb:Below w.heap.size w w':=⟨hg.os,hg.tape,hg.output,hg.size,fun k hk=>hg.block k hk (by simp)⟩;refine⟨?_,hb⟩;have hx:=Own.more (w:=w) (w':=w') (base:=w.heap.size) (e:=e) (v:=.slice none 0 0) (v':=v') (l:=([]:List α)) (m:=l++l') (news:=olds++news) (H:=w.heap.size) (Own.nil _ _ _)
   (fun xs hx=>by
     have:xs=[]:=List.eq_nil_of_length_eq_zero (by rw[hx.1];simp)
     subst this
     simpa using hw) hg hat nL
   (fun u hu=>(List.mem_append.1 hu).elim (ho2 u) (hn1' u)) (by rw[qA,qA,ho1,hnl',Nat.add_mul])
   (fun i hi=>by
     refine Rep.mono (S:=fun b=>b<w.heap.size) ?_ (fun j _ _=>by simp[Value.ownBlock])
     by_cases hil:i<l.length
     ·have e:(i+1)*Rep.size α≤olds.length:=by rw[ho1];exact Nat.mul_le_mul_right _ hil
      rw[Nat.add_mul,Nat.one_mul] at e
      rw[List.drop_append_of_le_length (by omega),List.take_append_of_le_length (by rw[List.length_drop];omega),List.getElem_append_left hil]
      exact ho3 i hil
     ·have him:i-l.length<l'.length:=by rw[qA] at hi;omega
      have e:i*Rep.size α=olds.length+(i-l.length)*Rep.size α:=by
       rw[ho1,←Nat.add_mul];congr 1;omega
      rw[List.getElem_append_right (by omega),List.drop_append,List.drop_of_length_le (by omega),List.nil_append,e,Nat.add_sub_cancel_left]
      exact hnr' _ him)
  rwa [List.nil_append] at hx
 by_cases h1:0<l.length
 ·obtain⟨b,o,olds,rfl,hSb,hlt,hol,ho1,hoc,hor⟩:=hl.flat h1
  obtain⟨v',w',hrun,h2,h3⟩:=run_append_arg_grows (P:=P) w t ty e i z (Rep.size α) bytes ht hi hz hz1 hz2 hzs hsz ⟨b,o,none⟩ l.length l.length olds hol (fun j u hu=>by rw[Qaw];exact hoc j u hu) ⟨b',o',none⟩ l'.length c news hnl' (fun j u hu=>by rw[Qaw];exact hnc' j u hu) (by omega) (by simp only[maxLen];omega) hbytes
  refine⟨v',w',hrun,key olds hol ho1 hor v' w' h2 h3 ?_⟩;rcases h2.2 with⟨rfl,q⟩|⟨g,cap,cur,rfl,hg,hgx,_⟩
  ·omega
  ·by_cases hgg:g<w.heap.size
   ·omega
   ·have hq:w'.heap[g]? ≠none:=by rw[hgx];simp
    right;have e1:=hrun;rw[run_append_grow (P:=P) w t ty e i z ht hi hz ⟨b,o,none⟩ l.length l.length olds (by rw[hz1];exact hol) (fun j u hu=>by rw[Qaw];exact hoc j u hu) ⟨b',o',none⟩ l'.length c news (by rw[hz1];exact hnl') (fun j u hu=>by rw[Qaw];exact hnc' j u hu) (by omega) (by omega) (by rw[hz2];exact growslice_fits (by omega) hbytes)] at e1;cases e1;rfl
 ·have h1':l.length=0:=by omega
  obtain rfl:l=[]:=List.eq_nil_of_length_eq_zero h1';rcases A with _|ad
  ·obtain⟨v',w',hrun,h2,h3,_,h5⟩:=run_append_own_at (P:=P) w w.heap.size t ty e i z (Rep.size α) bytes ht hi hz hz1 hz2 hzs hsz (.slice none 0 0) 0 [] (World.ownsRow_nil _ _ _ _) ⟨b',o',none⟩ l'.length c news hnl' (fun j u hu=>by rw[Qaw];exact hnc' j u hu) hn1' (by simp only[maxLen];omega) (by simpa using hbytes) nL
   exact⟨v',w',hrun,key [] (by simp) (by simp) (fun i hi=>absurd hi (by simp)) v' w' (by simpa using h2) h3 h5⟩
  ·have hb':(0+l'.length)*bytes≤140737488355328:=by simpa using hbytes
   obtain⟨v',w',hrun,h2,h3⟩:=run_append_arg_grows (P:=P) w t ty e i z (Rep.size α) bytes ht hi hz hz1 hz2 hzs hsz ad 0 0 [] (by simp) (fun j u hu=>by simp at hu) ⟨b',o',none⟩ l'.length c news hnl' (fun j u hu=>by rw[Qaw];exact hnc' j u hu) (by omega) (by simp only[maxLen];omega) hb'
   refine⟨v',w',hrun,key [] (by simp) (by simp) (fun i hi=>absurd hi (by simp)) v' w' (by simpa using h2) h3 ?_⟩;right;have e1:=hrun;rw[run_append_grow (P:=P) w t ty e i z ht hi hz ad 0 0 [] (by simp) (fun j u hu=>by simp at hu) ⟨b',o',none⟩ l'.length c news (by rw[hz1];exact hnl') (fun j u hu=>by rw[Qaw];exact hnc' j u hu) (by omega) (by omega) (by rw[hz2];exact growslice_fits (by omega) hb')] at e1;cases e1;rfl
theorem wp_fresh {o:Oper}{a:Act}{K:Act→World→Prop}{Q:Exit→Act→World→Prop}{w:World}(s x:Operand)(t:TypeId) (ho:o.op=.call {callee:=.builtin .append,args:=#[s,x],argTypes:=#[t,t]}) (e:TypeId) (z:Value) (bytes:Nat) (ht:P.underlying t=some (.slice e)) (hinfo:(P.info? e).map (fun i=>(i.zero,i.size,i.bytes))=some (some z,Rep.size α,bytes)) (hzs:z.cells.size=Rep.size α) (hsz:0<Rep.size α) (A:Option Addr) (n:Nat) (l:List α) (hs:a.eval s=.slice A n n) (hn:l.length=n) (hl:Sl w (fun b=>b<w.heap.size) A n l) (A':Option Addr) (c m:Nat) (l':List α) (hx:a.eval x=.slice A' m c) (hm:l'.length=m) (hl':Sl w (fun b=>b<w.heap.size) A' c l') (h0:0<m) (hbytes:(n+m)*bytes≤140737488355328) (hml:n+m≤9223372036854775807) (h:∀v' w',Own w' w.heap.size e v' (l++l')→Below w.heap.size w w'→K (a.put o.dst v') w'):o.wp P a w K Q:=by
 obtain⟨v',w',hrun,h2,h3⟩:=run_fresh (P:=P) w t o.type e z bytes ht hinfo hzs hsz A n l hn hl A' c m l' hm hl' h0 hbytes hml;unfold Oper.wp execOp;simp only[ho,resolve,invoke,builtin,Sem.run_bind,Sem.run_pure,Result.andThen_ok,List.map_toArray,List.map_cons,List.map_nil,hs,hx,hrun];exact h v' w' h2 h3
end
def SP.own {α:Type}[Rep α](B:Nat)(e:TypeId)(l:List α):SP:=⟨fun v w=>Own w B e v l,fun _ _ _ h hb=>h.below hb⟩
def SP.val (u:Value):SP:=⟨fun v _=>v=u,fun _ _ _ h _=>h⟩
def SP.any:SP:=⟨fun _ _=>True,fun _ _ _ h _=>h⟩
def SP.box (B:Nat)(cs:Array Value)(t:TypeId):SP:=⟨fun v w=>∃b,v=.pointer (some ⟨b,0,none⟩)∧B≤b∧b<w.heap.size∧w.heap[b]? =some (.cells cs t (0,0)),fun _ _ _ h hb=>by
 obtain⟨b,h1,h2,h3,h4⟩:=h
 exact⟨b,h1,h2,by have:=hb.size;omega,by rw[hb.block b h3];exact h4⟩⟩
theorem QdG {B R:Nat}{a w:World}(h:Below B a w)(hB:B≤R)(cs:Array Value):Below B a (w.setRow R cs):=
 ⟨h.os,h.tape,h.output,by rw[setRow_size];exact h.size,fun i hi=>(setRow_other w R i cs (by omega)).trans (h.block i hi)⟩
theorem cell_lt {w:World}{k:Nat}{b:Obj}(h:w.heap[k]? =some b):k<w.heap.size:=(Array.getElem?_eq_some_iff.1 h).1
def ABox (w:World)(P:Nat)(t:TypeId)(cs:List Value):Prop:=w.heap[P]? =some (.cells cs.toArray t (0,0))
section
variable {w w':World} {P:Nat} {t:TypeId} {cs:List Value}
theorem ABox.lt (h:ABox w P t cs):P<w.heap.size:=cell_lt h
theorem ABox.to (h:ABox w P t cs)(hb:Below w.heap.size w w'):ABox w' P t cs:=(hb.block P h.lt).trans h
theorem ABox.cell (h:ABox w P t cs)(i:Nat){v:Value}(hv:cs[i]? =some v):w.cell? ⟨P,i,none⟩=some v:=by
 rw[cell_of_row w P i _ _ _ h];simpa using hv
theorem ABox.fz (h:ABox w P t cs)(o:Nat):w.frozen? ⟨P,o,none⟩=false:=by
 unfold ABox at h;simp[World.frozen?,h]
theorem ABox.set (h:ABox w P t cs)(i:Nat)(v:Value):ABox (w.setCell ⟨P,i,none⟩ v) P t (cs.set i v):=by
 have:=QcN w P i v h;unfold ABox;rw[this];simp
theorem ABox.other (h:ABox w P t cs){Q:Nat}(hq:P≠Q)(o:Nat)(v:Value):ABox (w.setCell ⟨Q,o,none⟩ v) P t cs:=(Qac w Q o v hq).trans h
end
def IRow (w:World)(b:Nat)(t:TypeId)(l:List Int):Prop:=ABox w b t (l.map (Value.int .i64))
section
variable {w w':World} {b:Nat} {t:TypeId} {l:List Int}
theorem IRow.lt (h:IRow w b t l):b<w.heap.size:=ABox.lt h
theorem IRow.to (h:IRow w b t l)(hb:Below w.heap.size w w'):IRow w' b t l:=ABox.to h hb
theorem IRow.cell (h:IRow w b t l)(i:Nat){n:Int}(hi:l[i]? =some n):w.cell? ⟨b,i,none⟩=some (.int .i64 n):=ABox.cell h i (by rw[List.getElem?_map,hi];rfl)
theorem IRow.fz (h:IRow w b t l)(o:Nat):w.frozen? ⟨b,o,none⟩=false:=ABox.fz h o
theorem IRow.set (h:IRow w b t l)(i:Nat)(n:Int):IRow (w.setCell ⟨b,i,none⟩ (.int .i64 n)) b t (l.set i n):=by
 unfold IRow;rw[List.map_set];exact ABox.set h i _
theorem IRow.other (h:IRow w b t l){Q:Nat}(hq:b≠Q)(o:Nat)(v:Value):IRow (w.setCell ⟨Q,o,none⟩ v) b t l:=ABox.other h hq o v
theorem IRow.own (h:IRow w b t l){B:Nat}(hB:B≤b)(hI:∀x∈l,I64 x)(hl:l.length≤maxLen):Own w B t (.slice (some ⟨b,0,none⟩) l.length l.length) l:=by
 refine⟨l.map (Value.int .i64),⟨by simp[Rep.size],.inr ⟨b,l.length,_,rfl,hB,h,Nat.le_refl _,hl,by simp[Rep.size],by simp only[Rep.size,Nat.mul_one];exact List.take_of_length_le (by simp)⟩⟩,?_,fun i hi=>?_⟩
 ·intro u hu;obtain⟨x,_,rfl⟩:=List.mem_map.1 hu;rfl
 ·refine⟨?_,hI _ (List.getElem_mem hi)⟩;simp only[Rep.size,Nat.mul_one];rw[List.drop_eq_getElem_cons (by simpa using hi),List.take_succ_cons,List.take_zero,List.getElem_map]
end
def tot (l:List (List Word)):Nat:=l.flatten.length
theorem tot_take (l:List (List Word))(k:Nat)(h:k<l.length):tot (l.take (k+1))=tot (l.take k)+l[k].length:=by
 unfold tot;rw[qT h,List.flatten_append,qA,List.flatten_singleton]
theorem tot_le (l:List (List Word))(k:Nat):tot (l.take k)≤tot l:=by
 have h:tot l=tot (l.take k)+tot (l.drop k):=by
  unfold tot;rw[←qA,←List.flatten_append,List.take_append_drop]
 omega
theorem Qd6 {w:World}{X:Nat}{A B:Option Addr}{n c m d:Nat}{t:TypeId}{fr:Nat × Nat}(hB:w.heap[X]? =some (.cells #[.slice A n c,.slice B m d] t fr)):
 w.cell? ⟨X,0,none⟩=some (.slice A n c)∧w.cell? ⟨X,1,none⟩=some (.slice B m d):=⟨cell_of_row w _ 0 _ _ _ hB,cell_of_row w _ 1 _ _ _ hB⟩
theorem count_any (A B:Option Addr)(c d:Nat)(a b:List (List Word))(w:World)(ha:Sl w (fun b=>b<w.heap.size) A c a)(hb:Sl w (fun b=>b<w.heap.size) B d b)(hla:a.length≤1048576)(hlb:b.length≤1048576)(ht:tot (a++b)≤9223372036854775807):
 Calls Tryz.prog 151 #[.agg #[.slice A a.length c,.slice B b.length d]] w fun e w'=>e=.returned (.int .i64 (tot (a++b):Int))∧Below w.heap.size w w':=by
 have hb0:=((Below.refl w.heap.size w).alloc nL (.cells #[.slice A a.length c,.slice B b.length d] 36));have hb1:=hb0.alloc (by simp) (.cells #[.slice A a.length c,.slice B b.length d] 34);have Hb1:=Lh hb1;have Ha:=Lh (ha.to hb1);have Hb:=Lh (hb.to hb1);have q0:((w.alloc (.cells #[.slice A a.length c,.slice B b.length d] 36)).alloc (.cells #[.slice A a.length c,.slice B b.length d] 34)).cell? ⟨w.heap.size+1,0,none⟩=some (.slice A a.length c):=by go_simp
 have q1:((w.alloc (.cells #[.slice A a.length c,.slice B b.length d] 36)).alloc (.cells #[.slice A a.length c,.slice B b.length d] 34)).cell? ⟨w.heap.size+1,1,none⟩=some (.slice B b.length d):=by go_simp
 have Q0:=Lh q0;have Q1:=Lh q1;clear ha hb hb0 hb1 q0 q1;go_enter Tryz.func151,Tryz.ntmps151;go_wp2_with fail;refine(QdB _ A B c d a b _ Q0.out Q1.out Ha.out Hb.out hla hlb).mono ?_;rintro e w1 ⟨v,rfl,hown,hbb⟩;obtain⟨A1,c1,rfl,hs⟩:=hown.sl;have hll:(a++b).length≤2097152:=by simp;omega
 generalize hl:a++b=l at*;have HL:=Lh hl;clear hl;have Hs:=Lh hs;have Hbb:=Lh (Hb1.out.trans (hbb.mono Hb1.out.size));clear hs hown hbb Ha Hb Q0 Q1 Hb1;go_wp2_with fail;go_loop [3,5,13] (fun n _ i=>∃k:Nat,k≤l.length∧i=.int .i64 k∧n=.int .i64 (tot (l.take k):Int)) (fun _ _ i=>l.length-(intOf i).toNat);(case atStart=>exact⟨0,Nat.zero_le _,rfl,rfl⟩);case round=>
  obtain⟨k,hk,rfl,rfl⟩:=hrel;by_cases hlt:k<l.length
  ·obtain⟨b,o,Ap,cp,rfl,_,hbl,hc,hp⟩:=Qb8 Hs.out hlt;have hkl:(k:Int)<(l.length:Int):=(by omega);have hk0:(0:Int)≤(k:Int):=(by omega);have HT:=Lh (tot_take l k hlt);have h1:=tot_le l (k+1);have h2:tot (l.take k)+l[k].length≤9223372036854775807:=(by have:=HT.out;omega);generalize tot (l.take k)=T at*;clear hp h1;go_wp2_with fail;go_round;(case rel=>exact⟨k+1,by omega,by go_num,by rw[HT.out];go_num⟩);case measure=>simp[intOf];omega
  ·have E:=Lh (show tot (l.take k)=tot l by rw[List.take_of_length_le (by omega)]);go_wp2_with fail;go_ret;exact⟨Qas (by rw[E.out,HL.out]),Hbb.out⟩
def Word.val (x:Word):Value:=.agg #[.string x.s,.string x.key,.int .i64 x.t,.int .i64 x.n]
def Qa1 (p:Nat→Bool)(l:List (List Word)):Bool:=l.any fun x=>p x.length
theorem anyLen_take (p:Nat→Bool)(l:List (List Word))(k:Nat)(h:k<l.length):Qa1 p (l.take (k+1))=(Qa1 p (l.take k)||p l[k].length):=by
 unfold Qa1;rw[qT h,List.any_append];simp
theorem anyLen_hit (p:Nat→Bool)(l:List (List Word))(k:Nat)(h:k<l.length)(hp:p l[k].length=true):Qa1 p l=true:=by
 unfold Qa1;rw[List.any_eq_true];exact⟨_,List.getElem_mem h,hp⟩
def IsIdx (p:Nat→Bool)(l:List (List Word))(w:World)(e:Ending)(w':World):Prop:=∃r:Int,e=.returned (.int .i64 r)∧decide (0≤r)=Qa1 p l∧w=w'
theorem indexFunc_any (A:Option Addr)(c n:Nat)(l:List (List Word))(f:FuncId)(p:Nat→Bool)(w:World)(hl:Sl w (fun b=>b<w.heap.size) A c l)(hn:l.length=n) (hcf:∀(w':World) (args:Array Value),(callFunc f args).run Tryz.prog w'=.ok (.enter f args) w') (hf:∀(Ap:Option Addr) (n cp:Nat) (w':World),n≤9223372036854775807→Calls Tryz.prog f #[.slice Ap n cp] w' fun e w''=>e=.returned (.bool (p n))∧w'=w''):
 Calls Tryz.prog 134 #[.slice A n c,.func (.func f) #[] #[]] w (IsIdx p l w):=by
 subst hn;have hlen:l.length≤9223372036854775807:=by have:=hl.1;have:=hl.2.1;unfold maxLen at this;omega
 have Hf:=Lh hf;have Hl:=Lh hl;clear hf hl;go_enter Tryz.func134,Tryz.ntmps134;go_wp2_with fail;go_loopw [5,8] (fun _ i wr=>∃k:Nat,k≤l.length∧i=.int .i64 k∧Hid (Qa1 p (l.take k)=false)∧wr=w) (fun _ i _=>l.length-(intOf i).toNat);(case atStart=>exact⟨0,Nat.zero_le _,rfl,rfl,rfl⟩);case round=>
  obtain⟨k,hk,rfl,hno,rfl⟩:=hrel;by_cases hlt:k<l.length
  ·obtain⟨b,o,Ap,cp,rfl,_,hbl,hc,hp⟩:=Qb8 Hl.out hlt;have hkl:(k:Int)<(l.length:Int):=(by omega);have hk0:(0:Int)≤(k:Int):=(by omega);have HT:=Lh (anyLen_take p l k hlt);have HH:=Lh (anyLen_hit p l k hlt);have h2:l[k].length≤9223372036854775807:=(by have:=hp.1;have:=hp.2.1;unfold maxLen at this;omega);generalize l[k].length=q at*;clear hp;go_wp2_with fail;refine(Hf.out Ap q cp _ h2).mono ?_;rintro e w' ⟨rfl,rfl⟩;cases hp:p q
   ·have E:=Lh (show Qa1 p (l.take (k+1))=false by rw[HT.out,hno.out,hp];rfl);clear hp;go_wp2_with fail;go_roundw;(case rel=>exact⟨k+1,by omega,by go_num,E.out,by first|trivial|rfl⟩);case measure=>simp[intOf];omega
   ·have E:=Lh (HH.out hp);clear hp;go_wp2_with fail;go_ret;exact⟨k,rfl,by rw[E.out];exact decide_eq_true hk0,rfl⟩
  ·have E:=Lh (show Qa1 p l=false by have:=hno.out;rwa [List.take_of_length_le (by omega)] at this);go_wp2_with fail;go_ret;exact⟨-1,rfl,by rw[E.out];rfl,rfl⟩
theorem Qce (A:Option Addr)(c n:Nat)(l:List (List Word))(f:FuncId)(p:Nat→Bool)(w:World)(hl:Sl w (fun b=>b<w.heap.size) A c l)(hn:l.length=n) (hcf:∀(w':World) (args:Array Value),(callFunc f args).run Tryz.prog w'=.ok (.enter f args) w') (hf:∀(Ap:Option Addr) (n cp:Nat) (w':World),n≤9223372036854775807→Calls Tryz.prog f #[.slice Ap n cp] w' fun e w''=>e=.returned (.bool (p n))∧w'=w''):
 Calls Tryz.prog 86 #[.slice A n c,.func (.func f) #[] #[]] w fun e w'=>e=.returned (.bool (Qa1 p l))∧w=w':=by
 have Hi:=Lh (indexFunc_any A c n l f p w hl hn hcf hf);clear hl hf hcf;go_enter Tryz.func86,Tryz.ntmps86;go_wp2_with fail;refine Hi.out.mono ?_;rintro e w' ⟨r,rfl,hr,rfl⟩;have Hr:=Lh hr;clear hr;go_wp2_with fail;go_ret;exact⟨Qat Hr.out,rfl⟩
def QeK (n:Nat):Bool:=decide (500<n)
def QcI (n:Nat):Bool:=decide (n=0)
theorem long_any (Ap:Option Addr)(n cp:Nat)(w:World)(hn:n≤9223372036854775807):Calls Tryz.prog 87 #[.slice Ap n cp] w fun e w'=>e=.returned (.bool (QeK n))∧w=w':=by
 go_enter Tryz.func87,Tryz.ntmps87;go_wp2_with fail;go_ret;exact⟨Qat (by unfold QeK;rw[decide_eq_decide];omega),rfl⟩
theorem empty_any (Ap:Option Addr)(n cp:Nat)(w:World)(_hn:n≤9223372036854775807):Calls Tryz.prog 88 #[.slice Ap n cp] w fun e w'=>e=.returned (.bool (QcI n))∧w=w':=by
 go_enter Tryz.func88,Tryz.ntmps88;go_wp2_with fail;go_ret;exact⟨Qat (by unfold QcI;rw[Bool.eq_iff_iff];simp),rfl⟩
def badW (x:Word):Bool:= !QbS x.s||(decide (x.key≠⟨#[]⟩)&& !QbS x.key)
def Qch (np nn i:Nat)(notes:Int)(x:Word):Int × Int:=
 if badW x=true then(7,notes) else if x.t≠0∧x.t≠1 then(5,notes)
 else if x.n=0 then(0,notes) else if np≤i∨x.n≠notes+1∨(nn:Int)<notes+1 then(5,notes+1) else(0,notes+1)
def QaS (np nn i:Nat):Int→List Word→Int × Int
 |notes,[]=>(0,notes)
 |notes,x::r=>if(Qch np nn i notes x).1=0 then QaS np nn i (Qch np nn i notes x).2 r else Qch np nn i notes x
def QbV (np nn:Nat):Nat→Int→List (List Word)→Int × Int
 |_,notes,[]=>(0,notes)
 |i,notes,p::r=>if(QaS np nn i notes p).1=0 then QbV np nn (i+1) (QaS np nn i notes p).2 r else QaS np nn i notes p
def endP (nn:Nat)(r:Int × Int):Int:=if r.1≠0 then r.1 else if r.2≠nn then 3 else 0
def Qee (a b:List (List Word)):Int:=
 if 100<a.length∨100<b.length∨Qa1 QeK (a++b)=true then 2 else if Qa1 QcI (a++b)=true then 1 else endP b.length (QbV a.length b.length 0 0 (a++b))
theorem scanW_ok {np nn i:Nat}{notes n':Int}{p:List Word}{j:Nat}(hj:j<p.length)(h:Qch np nn i notes p[j]=(0,n')):QaS np nn i notes (p.drop j)=QaS np nn i n' (p.drop (j+1)):=by
 rw[List.drop_eq_getElem_cons hj,QaS,h];simp
theorem scanW_err {np nn i:Nat}{notes n' e:Int}{p:List Word}{j:Nat}(hj:j<p.length)(h:Qch np nn i notes p[j]=(e,n'))(he:e≠0):(QaS np nn i notes (p.drop j))=(e,n'):=by
 rw[List.drop_eq_getElem_cons hj,QaS,h];simp[he]
theorem scanP_ok {np nn i:Nat}{notes n':Int}{l:List (List Word)}(hi:i<l.length)(h:QaS np nn i notes l[i]=(0,n')):QbV np nn i notes (l.drop i)=QbV np nn (i+1) n' (l.drop (i+1)):=by
 rw[List.drop_eq_getElem_cons hi,QbV,h];simp
theorem scanP_err {np nn i:Nat}{notes n' e:Int}{l:List (List Word)}(hi:i<l.length)(h:QaS np nn i notes l[i]=(e,n'))(he:e≠0):QbV np nn i notes (l.drop i)=(e,n'):=by
 rw[List.drop_eq_getElem_cons hi,QbV,h];simp[he]
theorem step_bad {np nn i:Nat}{notes:Int}{x:Word}(h:badW x=true):Qch np nn i notes x=(7,notes):=by unfold Qch;rw[if_pos h]
theorem step_tab {np nn i:Nat}{notes:Int}{x:Word}(h:badW x=false)(ht:x.t≠0∧x.t≠1):Qch np nn i notes x=(5,notes):=by unfold Qch;rw[if_neg (by rw[h];simp),if_pos ht]
theorem Qcz {np nn i:Nat}{notes:Int}{x:Word}(h:badW x=false)(ht:x.t=0∨x.t=1)(hn:x.n=0):Qch np nn i notes x=(0,notes):=by unfold Qch;rw[if_neg (by rw[h];simp),if_neg (by omega),if_pos hn]
theorem QeH {np nn i:Nat}{notes:Int}{x:Word}(h:badW x=false)(ht:x.t=0∨x.t=1)(hn:x.n≠0)(hh:¬(np≤i∨x.n≠notes+1∨(nn:Int)<notes+1)):Qch np nn i notes x=(0,notes+1):=by unfold Qch;rw[if_neg (by rw[h];simp),if_neg (by omega),if_neg hn,if_neg hh]
theorem step_far {np nn i:Nat}{notes:Int}{x:Word}(h:badW x=false)(ht:x.t=0∨x.t=1)(hn:x.n≠0)(hh:np≤i∨x.n≠notes+1∨(nn:Int)<notes+1):Qch np nn i notes x=(5,notes+1):=by unfold Qch;rw[if_neg (by rw[h];simp),if_neg (by omega),if_neg hn,if_pos hh]
theorem bad_s {x:Word}(h:QbS x.s=false):badW x=true:=by unfold badW;rw[h];rfl
theorem bad_key {x:Word}(h:x.key≠⟨#[]⟩)(hk:QbS x.key=false):badW x=true:=by unfold badW;rw[hk,decide_eq_true h];simp
theorem good_nokey {x:Word}(h:QbS x.s=true)(hk:x.key=⟨#[]⟩):badW x=false:=by unfold badW;rw[h,hk];rfl
theorem good_key {x:Word}(h:QbS x.s=true)(hk:QbS x.key=true):badW x=false:=by unfold badW;rw[h,hk];simp
end Go.Proofs.YtegaapiocihcpaaGreatDoor
namespace Go.Proofs.YtegaapiocihcpaaGreatDoor
/-! ## Lines -/
def Qbc (ws:List Int)(m:Int):Int:=ws.foldl (fun s w=>s-(w+6)) (m+6)
def scanE (n:Nat):List Int→List (Int × Nat)→Int→Nat→Bool→Int × Nat→Int × Nat
 |[],_,_,_,_,cur=>cur
 |w::ws,r,s,j,first,cur=>
  if s-(w+6)<0 then cur
  else if j=n then(0,n)
  else if first=true∨(s-(w+6))*(s-(w+6))+(r.headD (0,0)).1≤cur.1 then scanE n ws r.tail (s-(w+6)) (j+1) false ((s-(w+6))*(s-(w+6))+(r.headD (0,0)).1,j)
  else scanE n ws r.tail (s-(w+6)) (j+1) false cur
def bestL (ws:List Int)(m:Int):Nat→List (Int × Nat)
 |0=>[(0,0)]
 |k+1=>scanE ws.length (ws.drop (ws.length-(k+1))) (bestL ws m k) (m+6) (ws.length-(k+1)+1) true (0,0)::bestL ws m k
def chainE (es:List Nat)(n:Nat):Nat→Nat→List Nat
 |0,_=>[]
 |f+1,i=>if i<n then es.getD i 0::chainE es n f (es.getD i 0) else[]
def endsP (ws:List Int)(m:Int):List Nat:=chainE ((bestL ws m ws.length).map (·.2)) ws.length ws.length 0
def Qeo (ws:List Int)(m:Int)(last:Bool):List Int:=
 if ws.length≤1 then[] else if last=true then List.replicate (ws.length-1) 6
 else(List.range (ws.length-1)).map fun(i:Nat)=>6+(Qbc ws m).tdiv ((ws.length-1:Nat):Int)+if(i:Int)<(Qbc ws m).tmod ((ws.length-1:Nat):Int) then 1 else 0
structure LineP where
 fr:Int
 un:Int
 gaps:List Int
 notes:List Int
deriving DecidableEq
def Qef {α:Type}(l:List α)(i j:Nat):List α:=(l.take j).drop i
def QaT (l:List Word):List Int:=(l.filter fun x=>decide (x.n≠0)).map fun x=>x.n-1
def QaA (ws:List Word)(wd:List Int)(m first:Int):Nat→List Nat→List LineP
 |_,[]=>[]
 |i,e::es=>⟨first+i,first+e,Qeo (Qef wd i e) m (decide (es=[])),QaT (Qef ws i e)⟩::QaA ws wd m first e es
def Qah (ws:List Word):List Int:=ws.map fun x=>QaR x.s
def setP (ws:List Word)(first m:Int):List LineP:=QaA ws (Qah ws) m first 0 (endsP (Qah ws) m)
def Qaz (m:Int):Int→List (List Word)→List (List LineP)
 |_,[]=>[]
 |first,p::ps=>setP p first m::Qaz m (first+p.length) ps
def QaX (a:List (List Word))(m:Int):List LineP:=(Qaz m 0 a).flatten
def Qau (a b:List (List Word))(m:Int):List (List LineP):=Qaz m (tot a:Nat) b
def QbE (a b:List (List Word))(m:Int):Int:=if Qee a b≠0 then Qee a b else if 500≤m∧m≤2000 then 0 else 5
/-! ## Pages -/
structure PageP where
 num:Int
 suf:Int
 entry:Int
 ver:Int
 body:List LineP
 notes:List LineP
deriving DecidableEq
def Qad (notes:List (List LineP))(x:LineP):List LineP:=x.notes.flatMap fun n=>notes.getD n.toNat []
def QcE (h lines shown:Nat):Int:=(h:Int)-lines-shown-(min shown 1:Nat)
def QcD (h lines shown queue:Nat)(x:LineP):Bool:=
 if x.notes=[] then decide (0<QcE h lines shown) else decide (shown=queue)&&decide (3-((min shown 1:Nat):Int)≤QcE h lines shown)
def fillP (notes:List (List LineP))(h:Nat):List LineP→Nat→Nat→List LineP→Nat × Nat × List LineP
 |[],lines,shown,queue=>(lines,shown,queue)
 |x::body,lines,shown,queue=>
  if QcD h lines shown queue.length x=true then
   fillP notes h body (lines+1) (if shown<(queue++Qad notes x).length then shown+min ((queue++Qad notes x).length-shown) (h-(lines+1)-shown-1) else shown) (queue++Qad notes x)
  else(lines,shown,queue)
def setPages (notes:List (List LineP))(h:Nat):Nat→List LineP→List LineP→List PageP
 |0,_,_=>[]
 |f+1,body,queue=>
  if body=[]∧queue=[] then[]
  else
   let r:=fillP notes h body 0 (min queue.length (h-1)) queue
   ⟨0,0,0,0,body.take r.1,r.2.2.take r.2.1⟩::setPages notes h f (body.drop r.1) (r.2.2.drop r.2.1)
def Qbz (n:Nat):Int→List Int→Option Int
 |next,[]=>some next
 |next,k::ks=>if k≠next∨(n:Int)≤k then none else Qbz n (next+1) ks
def Qa8 (body:List LineP)(notes:List (List LineP))(h:Int):Int:=
 if h<4∨100<h then 5 else if notes.any (fun l=>decide (l=[]))=true then 1
 else match Qbz notes.length 0 (body.flatMap (·.notes)) with
  |none=>12
  |some k=>if k<notes.length then 3 else 0
def Qaq (body:List LineP)(notes:List (List LineP)):Nat:=(body.map fun x=>1+(Qad notes x).length).sum
def QaP (a b:List (List Word))(m:Int)(h:Nat):List PageP:=
 setPages (Qau a b m) h (Qaq (QaX a m) (Qau a b m)) (QaX a m) []
def textE (a b:List (List Word))(m h:Int):Int:=if QbE a b m≠0 then QbE a b m else Qa8 (QaX a m) (Qau a b m) h
/-! ## Books -/
structure TextP where
 a:List (List Word)
 b:List (List Word)
structure SectP where
 entry:Int
 frozen:Bool
 vers:List Int
 texts:List TextP
structure BookP where
 m:Int
 h:Int
 sects:List SectP
def QaQ (entry ver num suf:Int):Nat→List PageP→List PageP
 |_,[]=>[]
 |k,p::ps=>{p with num:=if k=0 then num+1 else num,suf:=if k=0 then suf else suf+1,entry:=entry,ver:=ver}::QaQ entry ver (if k=0 then num+1 else num) (if k=0 then suf else suf+1) k ps
/-! ## Where lines end -/
theorem Qez (n:Nat):∀(ws:List Int) (r:List (Int × Nat)) (s:Int) (j:Nat) (first:Bool) (cur:Int × Nat),j+ws.length≤n+1→ scanE n ws r s j first cur=cur∨(j≤(scanE n ws r s j first cur).2∧(scanE n ws r s j first cur).2≤n)
 |[],_,_,_,_,_,_=>.inl rfl
 |w::ws,r,s,j,first,cur,h=>by
  rw[qC] at h;rw[scanE];split
  ·exact .inl rfl
  ·split
   ·rename_i hj;right;simp only;omega
   ·split
    ·rcases Qez n ws r.tail (s-(w+6)) (j+1) false ((s-(w+6))*(s-(w+6))+(r.headD (0,0)).1,j) (by omega) with h1|h1
     ·right;rw[h1];simp only;omega
     ·right;omega
    ·rcases Qez n ws r.tail (s-(w+6)) (j+1) false cur (by omega) with h1|h1
     ·left;exact h1
     ·right;omega
theorem scanE_first (n:Nat)(w:Int)(ws:List Int)(r:List (Int × Nat))(s:Int)(j:Nat)(cur:Int × Nat)(h:j+(ws.length+1)≤n+1)(hs:0≤s-(w+6)):
 j≤(scanE n (w::ws) r s j true cur).2∧(scanE n (w::ws) r s j true cur).2≤n:=by
 rw[scanE,if_neg (by omega)];split
 ·simp only;omega
 ·rw[if_pos (.inl rfl)];rcases Qez n ws r.tail (s-(w+6)) (j+1) false ((s-(w+6))*(s-(w+6))+(r.headD (0,0)).1,j) (by omega) with h1|h1
  ·rw[h1];simp only;omega
  ·omega
theorem QbA (ws:List Int)(m:Int):∀k,(bestL ws m k).length=k+1
 |0=>rfl
 |k+1=>by rw[bestL,qC,QbA ws m k]
theorem bestL_get (ws:List Int)(m:Int):∀k i,i<k→(bestL ws m k)[i]? =some (scanE ws.length (ws.drop (ws.length-(k-i))) (bestL ws m (k-i-1)) (m+6) (ws.length-(k-i)+1) true (0,0))
 |0,_,h=>absurd h (Nat.not_lt_zero _)
 |k+1,0,_=>by rw[bestL];rfl
 |k+1,i+1,h=>by
  rw[bestL,List.getElem?_cons_succ,bestL_get ws m k i (by omega)];have e1:k+1-(i+1)=k-i:=(by omega);rw[e1]
def bestAt (ws:List Int)(m:Int)(i:Nat):Int × Nat:=(bestL ws m ws.length).getD i (0,0)
theorem bestAt_eq (ws:List Int)(m:Int)(i:Nat)(h:i<ws.length):bestAt ws m i=scanE ws.length (ws.drop i) (bestL ws m (ws.length-i-1)) (m+6) (i+1) true (0,0):=by
 unfold bestAt;rw[List.getD_eq_getElem?_getD,bestL_get ws m _ i h];have e1:ws.length-(ws.length-i)=i:=by omega
 rw[e1];rfl
structure Reg (ws:List Int)(m:Int):Prop where
 n:ws.length≤500
 lo:500≤m
 hi:m≤2000
 w:∀x∈ws,1≤x∧x≤480
theorem bestAt_end {ws:List Int}{m:Int}(hr:Reg ws m)(i:Nat)(h:i<ws.length):i<(bestAt ws m i).2∧(bestAt ws m i).2≤ws.length:=by
 rw[bestAt_eq ws m i h];obtain⟨w,hw⟩:∃w,ws[i]=w:=⟨_,rfl⟩;have hwm:=hr.w ws[i] (List.getElem_mem h);rw[List.drop_eq_getElem_cons h,hw] at*;have:=hr.lo;have h2:=scanE_first ws.length w (ws.drop (i+1)) (bestL ws m (ws.length-i-1)) (m+6) (i+1) (0,0) (by rw[List.length_drop];omega) (by omega);omega
theorem Qc4 (es:List Nat)(n:Nat)(he:∀i,i<n→i<es.getD i 0∧es.getD i 0≤n):∀f i,n-i≤f→i≤n→ (∀e∈chainE es n f i,i<e∧e≤n)∧(chainE es n f i).Pairwise (· < ·)∧(i<n→(chainE es n f i).getLast? =some n)∧(chainE es n f i=[]↔i=n)∧(chainE es n f i).length≤n-i
 |0,i,hf,hi=>by
  have:i=n:=(by omega);subst this;simp[chainE]
 |f+1,i,hf,hi=>by
  rw[chainE];by_cases h:i<n
  ·rw[if_pos h];obtain⟨h1,h2⟩:=he i h;obtain⟨a,b,c,d,e⟩:=Qc4 es n he f (es.getD i 0) (by omega) h2;refine⟨?_,?_,fun _=>?_,?_,?_⟩
   ·intro x hx;rcases List.mem_cons.1 hx with rfl|hx
    ·exact⟨h1,h2⟩
    ·have:=a x hx;omega
   ·exact List.pairwise_cons.2 ⟨fun x hx=>(a x hx).1,b⟩
   ·by_cases hn:es.getD i 0<n
    ·rw[List.getLast?_cons,c hn];rfl
    ·have he:es.getD i 0=n:=by omega
     have hd:=d.2 he;rw[hd,he];rfl
   ·constructor
    ·intro hh;cases hh
    ·intro hh;omega
   ·rw[qC];omega
  ·rw[if_neg h];have:i=n:=(by omega);subst this;simp
/-! ## How pages are filled -/
def Qb5 (h lines shown queue:Nat):Nat:=if shown<queue then shown+min (queue-shown) (h-(lines+1)-shown-1) else shown
theorem Qer {h lines shown queue:Nat}(h1:shown≤queue):shown≤Qb5 h lines shown queue∧Qb5 h lines shown queue≤queue:=by
 unfold Qb5;split<;>omega
theorem Qcw (notes:List (List LineP))(h:Nat)(x:LineP)(body:List LineP)(lines shown:Nat)(queue:List LineP):
 fillP notes h (x::body) lines shown queue=if QcD h lines shown queue.length x=true then fillP notes h body (lines+1) (Qb5 h lines shown (queue++Qad notes x).length) (queue++Qad notes x) else(lines,shown,queue):=rfl
theorem QbO (notes:List (List LineP))(h:Nat):∀(body:List LineP) (lines shown:Nat) (queue:List LineP),shown≤queue.length→ ∃k,k≤body.length∧(fillP notes h body lines shown queue).1=lines+k∧shown≤(fillP notes h body lines shown queue).2.1∧(fillP notes h body lines shown queue).2.2=queue++(body.take k).flatMap (Qad notes)∧ (fillP notes h body lines shown queue).2.1≤(fillP notes h body lines shown queue).2.2.length
 |[],lines,shown,queue,hs=>⟨0,Nat.le_refl _,rfl,Nat.le_refl _,by simp[fillP],hs⟩
 |x::body,lines,shown,queue,hs=>by
  rw[Qcw];split
  ·obtain⟨h1,h2⟩:=Qer (h:=h) (lines:=lines) (show shown≤(queue++Qad notes x).length by rw[qA];omega);obtain⟨k,a,b,c,d,e⟩:=QbO notes h body (lines+1) _ (queue++Qad notes x) h2;refine⟨k+1,by rw[qC];omega,by rw[b];omega,by omega,?_,e⟩;rw[d,List.take_succ_cons,List.flatMap_cons,List.append_assoc]
  ·exact⟨0,Nat.zero_le _,rfl,Nat.le_refl _,by simp,hs⟩
theorem fillP_takes (notes:List (List LineP))(h:Nat)(h4:4≤h)(body queue:List LineP)(hn:¬(body=[]∧queue=[])):
 1≤(fillP notes h body 0 (min queue.length (h-1)) queue).1+(fillP notes h body 0 (min queue.length (h-1)) queue).2.1:=by
 obtain⟨k,a,b,c,d,e⟩:=QbO notes h body 0 (min queue.length (h-1)) queue (Nat.min_le_left _ _);by_cases hq:queue=[]
 ·subst hq;cases body with
  |nil=>exact absurd ⟨rfl,rfl⟩ hn
  |cons x body=>
   have hf:QcD h 0 (min ([]:List LineP).length (h-1)) ([]:List LineP).length x=true:=by
    unfold QcD QcE;split
    ·simp;omega
    ·simp;omega
   rw[Qcw,if_pos hf];obtain⟨h1,h2⟩:=Qer (h:=h) (lines:=0) (show min ([]:List LineP).length (h-1)≤([]++Qad notes x).length by simp);obtain⟨k,a,b,c,d,e⟩:=QbO notes h body (0+1) _ ([]++Qad notes x) h2;omega
 ·have:0<queue.length:=List.length_pos_iff.2 hq;omega
theorem QbH (notes:List (List LineP))(body:List LineP)(k:Nat)(hk:k≤body.length):
 Qaq (body.drop k) notes+k+((body.take k).flatMap (Qad notes)).length=Qaq body notes:=by
 induction body generalizing k with
 |nil=>simp at hk;subst hk;rfl
 |cons x body ih=>
  cases k with
  |zero=>simp
  |succ k=>
   have:=ih k (by rw[qC] at hk;omega);simp only[List.drop_succ_cons,List.take_succ_cons,List.flatMap_cons,qA,Qaq,List.map_cons,List.sum_cons] at*;omega
theorem page_less (notes:List (List LineP))(h:Nat)(h4:4≤h)(body queue:List LineP)(hn:¬(body=[]∧queue=[])):
 let r:=fillP notes h body 0 (min queue.length (h-1)) queue
 Qaq (body.drop r.1) notes+(r.2.2.drop r.2.1).length+1≤Qaq body notes+queue.length:=by
 obtain⟨k,a,b,c,d,e⟩:=QbO notes h body 0 (min queue.length (h-1)) queue (Nat.min_le_left _ _);have h1:=fillP_takes notes h h4 body queue hn;have h2:=QbH notes body k a;rw[Nat.zero_add] at b;intro r;show Qaq (body.drop (fillP notes h body 0 (min queue.length (h-1)) queue).1) notes+((fillP notes h body 0 (min queue.length (h-1)) queue).2.2.drop (fillP notes h body 0 (min queue.length (h-1)) queue).2.1).length+1≤_;have h3:(fillP notes h body 0 (min queue.length (h-1)) queue).2.2.length=queue.length+((body.take k).flatMap (Qad notes)).length:=by rw[d,qA]
 generalize fillP notes h body 0 (min queue.length (h-1)) queue=F at*;rw[b,List.length_drop];omega
/-! ## Costs are small -/
theorem Qdv (n:Nat)(B:Int)(hB:0≤B):∀(ws:List Int) (r:List (Int × Nat)) (s:Int) (j:Nat) (first:Bool) (cur:Int × Nat),(∀w∈ws,1≤w)→s≤2006→(∀x∈r,0≤x.1∧x.1≤B)→0≤cur.1→cur.1≤B+4100000→ 0≤(scanE n ws r s j first cur).1∧(scanE n ws r s j first cur).1≤B+4100000
 |[],_,_,_,_,_,_,_,_,h1,h2=>⟨h1,h2⟩
 |w::ws,r,s,j,first,cur,hw,hs,hr,h1,h2=>by
  have hw1:=hw w (by simp);have hr1:0≤(r.headD (0,0)).1∧(r.headD (0,0)).1≤B:=by
   cases r with
   |nil=>exact⟨Int.le_refl _,hB⟩
   |cons x r=>exact hr x (by simp)
  have ht:∀x∈r.tail,0≤x.1∧x.1≤B:=fun x hx=>hr x (List.mem_of_mem_tail hx)
  rw[scanE];split
  ·exact⟨h1,h2⟩
  ·rename_i hs0;have hq:(s-(w+6))*(s-(w+6))≤2006*2006:=Int.mul_le_mul (by omega) (by omega) (by omega) (by omega);have hq0:0≤(s-(w+6))*(s-(w+6)):=Int.mul_nonneg (by omega) (by omega);split
   ·simp only;omega
   ·split
    ·exact Qdv n B hB ws _ _ _ _ _ (fun x hx=>hw x (by simp[hx])) (by omega) ht (by simp only;omega) (by simp only;omega)
    ·exact Qdv n B hB ws _ _ _ _ _ (fun x hx=>hw x (by simp[hx])) (by omega) ht h1 h2
theorem bestL_cost {ws:List Int}{m:Int}(hr:Reg ws m):∀k,∀x∈bestL ws m k,0≤x.1∧x.1≤4100000*(k:Int)
 |0,x,hx=>by
  obtain rfl:=List.mem_singleton.1 hx;exact⟨Int.le_refl _,Int.le_refl _⟩
 |k+1,x,hx=>by
  have ih:=bestL_cost hr k;rcases List.mem_cons.1 hx with rfl|hx
  ·have:=Qdv ws.length (4100000*(k:Int)) (by omega) (ws.drop (ws.length-(k+1))) (bestL ws m k) (m+6) (ws.length-(k+1)+1) true (0,0) (fun w hw=>(hr.w w (List.mem_of_mem_drop hw)).1) (by have:=hr.hi;omega) ih (by simp) (by simp only;omega);have e:(4100000*((k+1:Nat):Int))=4100000*(k:Int)+4100000:=(by omega);rw[e];exact this
  ·have:=ih x hx;omega
/-! ## The rows of costs and of ends -/
theorem scanE_step (n:Nat)(w:Int)(ws:List Int)(r:List (Int × Nat))(s:Int)(j:Nat)(first:Bool)(cur:Int × Nat)(h1:¬s-(w+6)<0)(h2:j≠n):
 scanE n (w::ws) r s j first cur=scanE n ws r.tail (s-(w+6)) (j+1) false (if first=true∨(s-(w+6))*(s-(w+6))+(r.headD (0,0)).1≤cur.1 then((s-(w+6))*(s-(w+6))+(r.headD (0,0)).1,j) else cur):=by
 rw[scanE,if_neg h1,if_neg h2];split<;>rfl
theorem scanE_neg (n:Nat)(w:Int)(ws:List Int)(r:List (Int × Nat))(s:Int)(j:Nat)(first:Bool)(cur:Int × Nat)(h1:s-(w+6)<0):scanE n (w::ws) r s j first cur=cur:=by rw[scanE,if_pos h1]
theorem scanE_last (n:Nat)(w:Int)(ws:List Int)(r:List (Int × Nat))(s:Int)(first:Bool)(cur:Int × Nat)(h1:¬s-(w+6)<0):scanE n (w::ws) r s n first cur=(0,n):=by rw[scanE,if_neg h1,if_pos rfl]
end Go.Proofs.YtegaapiocihcpaaGreatDoor
namespace Go.Proofs.YtegaapiocihcpaaGreatDoor
open Go.RowKit
instance:Rep LineP where
 size:=4
 R w S cs x:=∃va vb,cs=[.int .i64 x.fr,.int .i64 x.un,va,vb]∧Rep.R w S [va] x.gaps∧Rep.R w S [vb] x.notes
 len:=by rintro w S cs s ⟨va,vb,rfl,_⟩;rfl
 one:=by
  rintro w S cs s ⟨va,vb,rfl,ha,hb⟩ u hu;have h1:=Rep.one ha va (by simp);have h2:=Rep.one hb vb (by simp);simp at hu;rcases hu with rfl|rfl|rfl|rfl
  ·rfl
  ·rfl
  ·exact h1
  ·exact h2
 keep:=by rintro w w' S cs s ⟨va,vb,rfl,ha,hb⟩ hk;exact⟨va,vb,rfl,Rep.keep ha hk,Rep.keep hb hk⟩
 mono:=by rintro w S S' cs s ⟨va,vb,rfl,ha,hb⟩ hk;exact⟨va,vb,rfl,Rep.mono ha hk,Rep.mono hb hk⟩
instance:Rep PageP where
 size:=6
 R w S cs x:=∃va vb,cs=[.int .i64 x.num,.int .i64 x.suf,.int .i64 x.entry,.int .i64 x.ver,va,vb]∧Rep.R w S [va] x.body∧Rep.R w S [vb] x.notes
 len:=by rintro w S cs s ⟨va,vb,rfl,_⟩;rfl
 one:=by
  rintro w S cs s ⟨va,vb,rfl,ha,hb⟩ u hu;have h1:=Rep.one ha va (by simp);have h2:=Rep.one hb vb (by simp);simp at hu;rcases hu with rfl|rfl|rfl|rfl|rfl|rfl
  ·rfl
  ·rfl
  ·rfl
  ·rfl
  ·exact h1
  ·exact h2
 keep:=by rintro w w' S cs s ⟨va,vb,rfl,ha,hb⟩ hk;exact⟨va,vb,rfl,Rep.keep ha hk,Rep.keep hb hk⟩
 mono:=by rintro w S S' cs s ⟨va,vb,rfl,ha,hb⟩ hk;exact⟨va,vb,rfl,Rep.mono ha hk,Rep.mono hb hk⟩
instance:Rep TextP where
 size:=2
 R w S cs x:=∃va vb,cs=[va,vb]∧Rep.R w S [va] x.a∧Rep.R w S [vb] x.b
 len:=by rintro w S cs s ⟨va,vb,rfl,_⟩;rfl
 one:=by
  rintro w S cs s ⟨va,vb,rfl,ha,hb⟩ u hu;have h1:=Rep.one ha va (by simp);have h2:=Rep.one hb vb (by simp);simp at hu;rcases hu with rfl|rfl
  ·exact h1
  ·exact h2
 keep:=by rintro w w' S cs s ⟨va,vb,rfl,ha,hb⟩ hk;exact⟨va,vb,rfl,Rep.keep ha hk,Rep.keep hb hk⟩
 mono:=by rintro w S S' cs s ⟨va,vb,rfl,ha,hb⟩ hk;exact⟨va,vb,rfl,Rep.mono ha hk,Rep.mono hb hk⟩
instance:Rep SectP where
 size:=4
 R w S cs x:=∃va vb,cs=[.int .i64 x.entry,.bool x.frozen,va,vb]∧I64 x.entry∧Rep.R w S [va] x.vers∧Rep.R w S [vb] x.texts
 len:=by rintro w S cs s ⟨va,vb,rfl,_⟩;rfl
 one:=by
  rintro w S cs s ⟨va,vb,rfl,_,ha,hb⟩ u hu;have h1:=Rep.one ha va (by simp);have h2:=Rep.one hb vb (by simp);simp at hu;rcases hu with rfl|rfl|rfl|rfl
  ·rfl
  ·rfl
  ·exact h1
  ·exact h2
 keep:=by rintro w w' S cs s ⟨va,vb,rfl,hi,ha,hb⟩ hk;exact⟨va,vb,rfl,hi,Rep.keep ha hk,Rep.keep hb hk⟩
 mono:=by rintro w S S' cs s ⟨va,vb,rfl,hi,ha,hb⟩ hk;exact⟨va,vb,rfl,hi,Rep.mono ha hk,Rep.mono hb hk⟩
def labE (n s:Int):Int:=if n<1∨16384<n∨s<0∨16384<s then 5 else 0
set_option maxRecDepth 100000 in
theorem labCheck_any (n s:Int)(w:World):Calls Tryz.prog 114 #[.agg #[.int .i64 n,.int .i64 s]] w fun e w'=>e=.returned (.int .i64 (labE n s))∧Below w.heap.size w w':=by
 have HB:Hid (Below w.heap.size w (w.alloc (.cells #[.int .i64 n,.int .i64 s] 40))):=Lh (bR.alloc nL _);unfold labE;by_cases h1:n<1
 ·rw[if_pos (.inl h1)];go_enter Tryz.func114,Tryz.ntmps114;go_wp2_with fail;go_ret;exact⟨rfl,HB.out⟩
 ·by_cases h2:16384<n
  ·rw[if_pos (.inr (.inl h2))];go_enter Tryz.func114,Tryz.ntmps114;go_wp2_with fail;go_ret;exact⟨rfl,HB.out⟩
  ·by_cases h3:s<0
   ·rw[if_pos (.inr (.inr (.inl h3)))];go_enter Tryz.func114,Tryz.ntmps114;go_wp2_with fail;go_ret;exact⟨rfl,HB.out⟩
   ·by_cases h4:16384<s
    ·rw[if_pos (.inr (.inr (.inr h4)))];go_enter Tryz.func114,Tryz.ntmps114;go_wp2_with fail;go_ret;exact⟨rfl,HB.out⟩
    ·rw[if_neg (by omega)];go_enter Tryz.func114,Tryz.ntmps114;go_wp2_with fail;go_ret;exact⟨rfl,HB.out⟩
theorem within_any (n lo hi:Int)(w:World):Calls Tryz.prog 91 #[.int .i64 n,.int .i64 lo,.int .i64 hi] w fun e w'=>e=.returned (.bool (decide (lo≤n∧n≤hi)))∧w=w':=by
 by_cases h1:lo≤n
 ·by_cases h2:n≤hi
  ·rw[decide_eq_true ⟨h1,h2⟩];go_enter Tryz.func91,Tryz.ntmps91;go_wp2_with fail;go_ret;exact⟨rfl,rfl⟩
  ·rw[decide_eq_false (fun h=>h2 h.2)];go_enter Tryz.func91,Tryz.ntmps91;go_wp2_with fail;go_ret;exact⟨rfl,rfl⟩
 ·rw[decide_eq_false (fun h=>h1 h.1)];go_enter Tryz.func91,Tryz.ntmps91;go_wp2_with fail;go_ret;exact⟨rfl,rfl⟩
theorem QaK {P:Program}{fn:Func}{p q:Tmp}{ty:TypeId}(h:fn.results=#[.cell p ty,.tmp q])(tmps:Array Value)(w:World)(g:Nat)(t:TypeId)(cs:Array Value)(fr:Nat × Nat)(d:TypeDesc) (hp:tmps.getD p undef=.pointer (some ⟨g,0,none⟩)) (hg:w.heap[g]? =some (.cells cs t fr)) (hu:P.underlying ty=some d) (hd:(match d with|.struct _|.array _ _=>true|_=>false)=true) (hi:(P.info? ty).map (·.size)=some cs.size):
 (results fn tmps).run P w=.ok (.tuple #[.agg cs,tmps.getD q undef]) w:=by
 have hp':tmps[p]?.getD undef=.pointer (some ⟨g,0,none⟩):=by simpa using hp
 simp[results,h,hp',asAddr,run_loadVar_row w g t ty cs fr d hg hu hd hi]
end Go.Proofs.YtegaapiocihcpaaGreatDoor
namespace Go.Proofs
open Go.Shelf
def Tryz.lays156_ren:Go.Shelf.Ren:=⟨fun|156=>115|165=>165|166=>166|169=>167|240=>194|241=>195|276=>215|277=>216|n=>n,fun|31=>44|9=>9|3=>3|4=>4|0=>0|20=>20|72=>226|76=>229|70=>224|37=>158|75=>228|127=>249|164=>266|5=>5|80=>231|n=>n,fun|n=>n⟩
theorem Tryz.lays156:Go.Proofs.Lays.n156 Tryz.prog Tryz.lays156_ren:={
 mixed:=by kernel_rfl
 f156:=Tryz.func115.trans (congrArg some (by kernel_rfl))
 f165:=Tryz.func165.trans (congrArg some (by kernel_rfl))
 f166:=Tryz.func166.trans (congrArg some (by kernel_rfl))
 f169:=Tryz.func167.trans (congrArg some (by kernel_rfl))
 f240:=Tryz.func194.trans (congrArg some (by kernel_rfl))
 f241:=Tryz.func195.trans (congrArg some (by kernel_rfl))
 f276:=Tryz.func215.trans (congrArg some (by kernel_rfl))
 f277:=Tryz.func216.trans (congrArg some (by kernel_rfl))
 t0:=Tryz.underlying0
 a0:=Tryz.isAgg0
 z0:=Tryz.sizeOf0
 v0:=Tryz.zeroValue0
 t3:=Tryz.underlying3
 a3:=Tryz.isAgg3
 z3:=Tryz.sizeOf3
 v3:=Tryz.zeroValue3
 t4:=Tryz.underlying4
 a4:=Tryz.isAgg4
 z4:=Tryz.sizeOf4
 v4:=Tryz.zeroValue4
 t9:=Tryz.underlying9
 a9:=Tryz.isAgg9
 z9:=Tryz.sizeOf9
 v9:=Tryz.zeroValue9
 t20:=Tryz.underlying20
 a20:=Tryz.isAgg20
 z20:=Tryz.sizeOf20
 v20:=Tryz.zeroValue20
 t31:=Tryz.underlying44
 a31:=Tryz.isAgg44
 z31:=Tryz.sizeOf44
 v31:=Tryz.zeroValue44
 t37:=Tryz.underlying158
 a37:=Tryz.isAgg158
 z37:=Tryz.sizeOf158
 v37:=Tryz.zeroValue158
 t70:=Tryz.underlying224
 a70:=Tryz.isAgg224
 z70:=Tryz.sizeOf224
 v70:=Tryz.zeroValue224
 t72:=Tryz.underlying226
 a72:=Tryz.isAgg226
 z72:=Tryz.sizeOf226
 v72:=Tryz.zeroValue226
 t75:=Tryz.underlying228
 a75:=Tryz.isAgg228
 z75:=Tryz.sizeOf228
 v75:=Tryz.zeroValue228
 t76:=Tryz.underlying229
 a76:=Tryz.isAgg229
 z76:=Tryz.sizeOf229
 v76:=Tryz.zeroValue229
 t127:=Tryz.underlying249
 a127:=Tryz.isAgg249
 z127:=Tryz.sizeOf249
 v127:=Tryz.zeroValue249
 t164:=Tryz.underlying266
 a164:=Tryz.isAgg266
 z164:=Tryz.sizeOf266
 v164:=Tryz.zeroValue266}
theorem Tryz.Builder_Extra_156:Builder.Extra Tryz.prog Tryz.lays156_ren:={
 sizeBuilder:=by kernel_rfl
 liesBuilder:=by kernel_rfl
 t5:=Tryz.underlying5
 a5:=Tryz.isAgg5
 z5:=Tryz.sizeOf5
 v5:=Tryz.zeroValue5
 infoByte:=by kernel_rfl
 cellsByte:=by kernel_rfl
 sizeByte:=by kernel_rfl
 neB5:=by decide}
open Go.RowKit in
theorem Tryz.strings_Join (bk o c:Nat)(xs:List ByteArray)(sep:ByteArray)(w:World)(hcells:∀(j:Nat) x,xs[j]? =some x→w.cell? ⟨bk,o+j,none⟩=some (.string x))(hbk:bk<w.heap.size)(hN:xs.length≤140737488355328)(hcap:xs.length≤c)(hlen:(Lib.join (xs.map (·.data.toList)) sep.data.toList).length≤140737488355328):
 Calls Tryz.prog 115 #[.slice (some ⟨bk,o,none⟩) xs.length c,.string sep] w fun e w'=>e=.returned (.string ⟨(Lib.join (xs.map (·.data.toList)) sep.data.toList).toArray⟩)∧Below w.heap.size w w':=Any.strings_Join Tryz.lays156 Tryz.Builder_Extra_156 bk o c xs sep w hcells hbk hN hcap hlen
def Tryz.laysM171_ren:Go.Shelf.Ren:=⟨fun|171=>75|243=>130|246=>174|283=>201|284=>202|285=>203|286=>204|129=>212|317=>219|318=>220|319=>221|320=>222|337=>225|338=>226|n=>n,fun|3=>3|9=>9|2=>2|4=>4|171=>252|0=>0|53=>201|37=>158|5=>5|173=>255|212=>272|51=>182|20=>20|213=>273|46=>184|232=>100|233=>276|n=>n,fun|17=>2|18=>4|19=>5|n=>n⟩
theorem Tryz.laysM171:Go.Proofs.LaysM.n171 Tryz.prog Tryz.laysM171_ren:={
 mixed:=by kernel_rfl
 f129:=Tryz.func212.trans (congrArg some (by kernel_rfl))
 f171:=Tryz.func75.trans (congrArg some (by kernel_rfl))
 f243:=Tryz.func130.trans (congrArg some (by kernel_rfl))
 f246:=Tryz.func174.trans (congrArg some (by kernel_rfl))
 f283:=Tryz.func201.trans (congrArg some (by kernel_rfl))
 f284:=Tryz.func202.trans (congrArg some (by kernel_rfl))
 f285:=Tryz.func203.trans (congrArg some (by kernel_rfl))
 f286:=Tryz.func204.trans (congrArg some (by kernel_rfl))
 f317:=Tryz.func219.trans (congrArg some (by kernel_rfl))
 f318:=Tryz.func220.trans (congrArg some (by kernel_rfl))
 f319:=Tryz.func221.trans (congrArg some (by kernel_rfl))
 f320:=Tryz.func222.trans (congrArg some (by kernel_rfl))
 f337:=Tryz.func225.trans (congrArg some (by kernel_rfl))
 f338:=Tryz.func226.trans (congrArg some (by kernel_rfl))
 t0:=Tryz.underlying0
 a0:=Tryz.isAgg0
 z0:=Tryz.sizeOf0
 v0:=Tryz.zeroValue0
 t2:=Tryz.underlying2
 a2:=Tryz.isAgg2
 z2:=Tryz.sizeOf2
 v2:=Tryz.zeroValue2
 t3:=Tryz.underlying3
 a3:=Tryz.isAgg3
 z3:=Tryz.sizeOf3
 v3:=Tryz.zeroValue3
 t4:=Tryz.underlying4
 a4:=Tryz.isAgg4
 z4:=Tryz.sizeOf4
 v4:=Tryz.zeroValue4
 t5:=Tryz.underlying5
 a5:=Tryz.isAgg5
 z5:=Tryz.sizeOf5
 v5:=Tryz.zeroValue5
 t9:=Tryz.underlying9
 a9:=Tryz.isAgg9
 z9:=Tryz.sizeOf9
 v9:=Tryz.zeroValue9
 t20:=Tryz.underlying20
 a20:=Tryz.isAgg20
 z20:=Tryz.sizeOf20
 v20:=Tryz.zeroValue20
 t37:=Tryz.underlying158
 a37:=Tryz.isAgg158
 z37:=Tryz.sizeOf158
 v37:=Tryz.zeroValue158
 t46:=Tryz.underlying184
 a46:=Tryz.isAgg184
 z46:=Tryz.sizeOf184
 v46:=Tryz.zeroValue184
 t51:=Tryz.underlying182
 a51:=Tryz.isAgg182
 z51:=Tryz.sizeOf182
 v51:=Tryz.zeroValue182
 t53:=Tryz.underlying201
 a53:=Tryz.isAgg201
 z53:=Tryz.sizeOf201
 v53:=Tryz.zeroValue201
 t171:=Tryz.underlying252
 a171:=Tryz.isAgg252
 z171:=Tryz.sizeOf252
 v171:=Tryz.zeroValue252
 t173:=Tryz.underlying255
 a173:=Tryz.isAgg255
 z173:=Tryz.sizeOf255
 v173:=Tryz.zeroValue255
 t212:=Tryz.underlying272
 a212:=Tryz.isAgg272
 z212:=Tryz.sizeOf272
 v212:=Tryz.zeroValue272
 t213:=Tryz.underlying273
 a213:=Tryz.isAgg273
 z213:=Tryz.sizeOf273
 t232:=Tryz.underlying100
 a232:=Tryz.isAgg100
 z232:=Tryz.sizeOf100
 v232:=Tryz.zeroValue100
 t233:=Tryz.underlying276
 a233:=Tryz.isAgg276
 z233:=Tryz.sizeOf276
 v233:=Tryz.zeroValue276
 g17:=by kernel_rfl
 g18:=by kernel_rfl
 g19:=by kernel_rfl
 i0:=by kernel_rfl
 i2:=by kernel_rfl
 i3:=by kernel_rfl
 i4:=by kernel_rfl
 i5:=by kernel_rfl
 i9:=by kernel_rfl
 i20:=by kernel_rfl
 i37:=by kernel_rfl
 i46:=by kernel_rfl
 i51:=by kernel_rfl
 i53:=by kernel_rfl
 i171:=by kernel_rfl
 i173:=by kernel_rfl
 i212:=by kernel_rfl
 i232:=by kernel_rfl
 i233:=by kernel_rfl
 m17:=by kernel_rfl
 m18:=by kernel_rfl
 m19:=by kernel_rfl}
open Go.RowKit Go.Sort Go.Lib in
theorem Tryz.strconv_Itoa (n:Int)(h0: -9223372036854775808≤n)(h1:n≤9223372036854775807)(w:World)(htab:Lib.TabIs Tryz.prog w "internal/strconv.uint64pow10" .u64 Lib.pow10Tab):
 Calls Tryz.prog 75 #[.int .i64 n] w fun e w'=>e=.returned (.string ⟨(Lib.itoa n).toArray⟩)∧∃k os,w'=grow (w.drewN k) os:=Any.strconv_Itoa Tryz.laysM171 n h0 h1 w htab
def Tryz.lays212_ren:Go.Shelf.Ren:=⟨fun|212=>175|263=>205|264=>206|n=>n,fun|46=>184|51=>182|146=>257|53=>201|148=>259|n=>n,fun|n=>n⟩
theorem Tryz.lays212:Go.Proofs.Lays.n212 Tryz.prog Tryz.lays212_ren:={
 mixed:=by kernel_rfl
 f212:=Tryz.func175.trans (congrArg some (by kernel_rfl))
 f263:=Tryz.func205.trans (congrArg some (by kernel_rfl))
 f264:=Tryz.func206.trans (congrArg some (by kernel_rfl))
 t46:=Tryz.underlying184
 a46:=Tryz.isAgg184
 z46:=Tryz.sizeOf184
 v46:=Tryz.zeroValue184
 t51:=Tryz.underlying182
 a51:=Tryz.isAgg182
 z51:=Tryz.sizeOf182
 v51:=Tryz.zeroValue182
 t53:=Tryz.underlying201
 a53:=Tryz.isAgg201
 z53:=Tryz.sizeOf201
 v53:=Tryz.zeroValue201
 t146:=Tryz.underlying257
 a146:=Tryz.isAgg257
 z146:=Tryz.sizeOf257
 v146:=Tryz.zeroValue257
 t148:=Tryz.underlying259
 a148:=Tryz.isAgg259
 z148:=Tryz.sizeOf259
 v148:=Tryz.zeroValue259}
open Go.RowKit Go.Lib in
theorem Tryz.bits_Mul (x y:Nat)(hx:x<18446744073709551616)(hy:y<18446744073709551616)(w:World):
 Calls Tryz.prog 175 #[.int .u64 x,.int .u64 y] w fun e w'=>e=.returned (.tuple #[.int .u64 ((x*y/18446744073709551616:Nat):Int),.int .u64 ((x*y%18446744073709551616:Nat):Int)])∧w'=w:=Any.bits_Mul Tryz.lays212 x y hx hy w
end Go.Proofs
namespace Go.Proofs.YtegaapiocihcpaaGreatDoor
open Go.RowKit
theorem gP:Tryz.prog.globalNamed "internal/strconv.uint64pow10" =some 2:=by kernel_rfl
def Tabs (w:World):Prop:=Laid w∧Lib.TabIs Tryz.prog w "internal/strconv.uint64pow10" .u64 Lib.pow10Tab
theorem Tabs.to {w w':World}(h:Tabs w)(hb:Below w.heap.size w w'):Tabs w':=⟨h.1.to hb,TabIs_keep gP h.2 hb⟩
def sufF:Nat→Nat→List UInt8→List UInt8
 |0,_,acc=>acc
 |f+1,n,acc=>if n=0 then acc else sufF f ((n-1)/26) (UInt8.ofNat (97+(n-1)%26)::acc)
def labT (n s:Nat):ByteArray:=⟨(Lib.itoa (n:Int)++sufF 4 s []).toArray⟩
def sufB:Nat→Nat
 |4=>16384
 |3=>630
 |2=>24
 |_=>0
theorem sufF_len:∀(f n:Nat) (acc:List UInt8),(sufF f n acc).length≤f+acc.length
 |0,_,acc=>by simp[sufF]
 |f+1,n,acc=>by
  rw[sufF];split
  ·omega
  ·have:=sufF_len f ((n-1)/26) (UInt8.ofNat (97+(n-1)%26)::acc);rw[qC] at this;omega
theorem ret_str {a b:ByteArray}(h:a=b):Ending.returned (.string a)=.returned (.string b):=by rw[h]
theorem val_str {a b:ByteArray}(h:a=b):Value.string a=.string b:=by rw[h]
theorem utf_letter (r:Nat)(hr:r<26):Utf8.encode (97+(r:Int))=⟨#[UInt8.ofNat (97+r)]⟩:=by
 have h:∀r:Fin 26,Utf8.encode (97+((r.val:Nat):Int))=⟨#[UInt8.ofNat (97+r.val)]⟩:=by decide +kernel
 exact h ⟨r,hr⟩
theorem sufB_step {g m:Nat}(h:m≤sufB (g+1))(_hm:¬m=0)(hg:g+1≤4):(m-1)/26≤sufB g∧m≤16384:=by
 rcases(show g=0∨g=1∨g=2∨g=3 by omega) with rfl|rfl|rfl|rfl;all_goals
  simp only[sufB] at h ⊢;omega
theorem ltext_any (n s:Nat)(hn:1≤n∧n≤16384)(hs:s≤16384)(w:World)(hT:Tabs w):
 Calls Tryz.prog 59 #[.agg #[.int .i64 (n:Int),.int .i64 (s:Int)]] w fun e w'=>e=.returned (.string (labT n s))∧Below w.heap.size w w':=by
 have hb0:=(Below.refl w.heap.size w).alloc nL (.cells #[.int .i64 (n:Int),.int .i64 (s:Int)] 40);have hx0:ABox (w.alloc (.cells #[.int .i64 (n:Int),.int .i64 (s:Int)] 40)) w.heap.size 40 [.int .i64 (n:Int),.int .i64 (s:Int)]:=heap_alloc_new w _;have hE:labE (n:Int) (s:Int)=0:=by unfold labE;rw[if_neg (by omega)]
 have hn1:(1:Int)≤n:=by omega
 have hn2:(n:Int)≤16384:=by omega
 have hs1:(s:Int)≤16384:=by omega
 have hs0:(0:Int)≤s:=by omega
 have HC:=Lh (labCheck_any (n:Int) (s:Int) (w.alloc (.cells #[.int .i64 (n:Int),.int .i64 (s:Int)] 40)));rw[hE] at HC;go_enter Tryz.func59,Tryz.ntmps59;go_upto_region 1 with(fail);generalize w.alloc (.cells #[.int .i64 (n:Int),.int .i64 (s:Int)] 40)=w0 at*;have HB0:=Lh hb0;have HX0:=Lh hx0;have HT:=Lh hT;have x0:=hx0.cell 0 rfl;have x1:=hx0.cell 1 rfl;have HNS:=Lh hn;clear hb0 hx0 hE hT hn hs
 go_upto_region 3 with(first|(go_at_call 114;refine HC.out.mono ?_;rintro e w1 ⟨rfl,hb1⟩;have HX1:=Lh (HX0.out.to hb1);have HB1:=Lh (HB0.out.trans (hb1.mono HB0.out.size));clear hb1 x0 x1;have x0:=HX1.out.cell 0 rfl;have x1:=HX1.out.cell 1 rfl)|fail)
 go_wp2_with fail;go_loop [3,4] (fun v i=>∃f m acc,v=.string ⟨acc.toArray⟩∧i=.int .i64 ((m:Nat):Int)∧sufF f m acc=sufF 4 s []∧m≤sufB f∧f≤4∧acc.length≤10*(4-f)) (fun _ i=>(intOf i).toNat);(case atStart=>exact⟨4,s,[],rfl,rfl,rfl,by show s≤16384;omega,by omega,by simp⟩);case round=>
  obtain⟨f,m,acc,rfl,rfl,hf,hm,hf4,hacc⟩:=hrel;have HF:=Lh hf;clear hf;by_cases hm0:m=0
  ·subst hm0
   have HS:Hid (acc=sufF 4 s []):=Lh (by
    rw[←HF.out]
    cases f with
    |zero=>rfl
    |succ f=>rw[sufF,if_pos rfl])
   have hal:acc.length≤40:=(by omega);go_upto_region 8 with(fail);have HIT:=Lh ((Tryz.strconv_Itoa (n:Int) (by omega) (by omega) w1 (HT.out.to HB1.out).2));have hil:=Lib.itoa_length_le (n:Int) (by omega) (by omega);have HLT:Hid (labT n s=⟨(Lib.itoa (n:Int)++acc).toArray⟩):=Lh (by unfold labT;rw[HS.out]);generalize Lib.itoa (n:Int)=l at*;go_wp2_with fail;refine HIT.out.mono ?_;rintro e w2 ⟨rfl,k,os,hw⟩;have HB2:=Lh (show Below w1.heap.size w1 w2 by rw[hw];exact Lib.below_grow _ _ nL _ _);clear hw;have h9:l.length+acc.length≤9223372036854775807:=(by omega);go_wp2_with fail;go_ret;exact⟨ret_str (by rw[HLT.out];apply ByteArray.ext;simp),HB1.out.trans (HB2.out.mono HB1.out.size)⟩
  ·obtain⟨g,rfl⟩:∃g,f=g+1:=by
    cases f with
    |zero=>exact absurd hm (by show ¬m≤0;omega)
    |succ g=>exact⟨g,rfl⟩
   obtain⟨hb1,hb2⟩:=sufB_step hm hm0 hf4;have hmI:0<(m:Int):=(by omega);have hm3:(m:Int)≤16384:=(by omega);have e1:((m:Int)-1)%26=(((m-1)%26:Nat):Int):=(by omega);have e2:((m:Int)-1)/26=(((m-1)/26:Nat):Int):=(by omega);have hU:Utf8.encode (97+((m:Int)-1)%26)=⟨#[UInt8.ofNat (97+(m-1)%26)]⟩:=(by rw[e1];exact utf_letter _ (Nat.mod_lt _ (by decide)));have HE2:=Lh e2
   have HSF:Hid (sufF g ((m-1)/26) (UInt8.ofNat (97+(m-1)%26)::acc)=sufF 4 s []):=Lh (by
    rw[←HF.out,sufF,if_neg hm0])
   have hal:acc.length≤40:=(by omega);have HBD:=Lh hb1;clear e1 e2 hb1 hb2 hm;generalize UInt8.ofNat (97+(m-1)%26)=ch at*;go_wp2_with fail;go_round;(case rel=>exact⟨g,(m-1)/26,ch::acc,val_str (by apply ByteArray.ext;simp),by rw[HE2.out],HSF.out,HBD.out,by omega,by rw[qC];omega⟩);case measure=>simp[intOf];omega
end Go.Proofs.YtegaapiocihcpaaGreatDoor
namespace Go.Proofs.YtegaapiocihcpaaGreatDoor
open Go.ChangeShapes Go.WideShapes Go.ChangeAt Go.RowKit
variable {H:Type} {enc:TypeId × Value→H} {P:Program}
def readT (P:Program)(t:TypeId):Bool:=P.readableRec t&&decide (t<P.types.size)
theorem stays {W W':World}(hl:laidOutB P=true)(hb:Below W.heap.size W W')(sp:Nat→Bool):∀{ts:List TypeId} {vs:List Value} {ds:List (DataW H)} {p:List MemPlace},ts.all (readT P)=true→DataW.TrodAll enc P W 0 (fun _=>true) true ts vs ds p→(∀x∈p,x.block<W.heap.size)→(∀x∈p,sp x.block=true)→DataW.TrodAll enc P W' 0 sp true ts vs ds p:=by
 intro ts;induction ts with
 |nil=>
  intro vs ds p _ h _ _;obtain⟨rfl,rfl,rfl⟩:=trodAll_nil h;exact trodAll_mk0
 |cons t ts ih=>
  intro vs ds p hr h hlt hsp;obtain⟨v,vs',d,ds',q,q',rfl,rfl,rfl,h1,h2⟩:=trodAll_cons h;rw[List.all_cons,Bool.and_eq_true] at hr;have hr1:=hr.1;unfold readT at hr1;rw[Bool.and_eq_true,decide_eq_true_iff] at hr1
  exact trodAll_cons_mk (WideElems.Trod_stays hl hr1.1 hr1.2 h1 (fun x hx=>hb.same (hlt x (List.mem_append_left _ hx))) (fun x hx=>hsp x (List.mem_append_left _ hx))) (ih hr.2 h2 (fun x hx=>hlt x (List.mem_append_right _ hx)) (fun x hx=>hsp x (List.mem_append_right _ hx)))
theorem row_close {f:Func}{s:ChangeSpec}{W W':World}{args:Array Value}{ds gs:List (DataW H)}{before:List MemPlace}{tb:TypeId}{fresh handsOn:Bool} (hl:laidOutB P=true) (ht:P.underlying tb=some .bool) (hrt:f.resultTypes=#[tb]) (hr:f.params.toList.all (readT P)=true) (hv:s.vars=[]) (hW:DataW.Whole enc P f.params.toList s.vars false W args.toList ds gs before) (hres:(s.fn H (ds++gs))={results:=[.lit (.bool true)],args:=ds}) (hb:Below W.heap.size W W'):
 s.post enc P f false fresh handsOn false W args (.bool true) W':=by
 have hlt:∀p∈before,p.block<W.heap.size:=fun p hp=>hW.lt p hp
 have hW':=hW;obtain⟨p,q,hA,hV,rfl,hz,_⟩:=hW;rw[hv] at hV;obtain⟨rfl,rfl⟩:=trodVars_none hV;rw[List.append_nil] at hlt hz hW';refine⟨ds,[],p,[],p,[],hW',?_,?_,?_,hb.frame _,fun h=>by cases h⟩
 ·rw[hrt,hres];exact trodAll_cons_mk (shut_bool ht true) trodAll_mk0
 ·rw[hres];exact stays hl hb _ hr hA hlt (fun x hx=>by simpa using hlt x hx)
 ·rw[hres,hv];rfl
theorem i64_wf {n:Int}(h:(Lit.int .i64 n).wf=true): -9223372036854775808≤n∧n≤9223372036854775807:=by
 simpa[Lit.wf,IntKind.min,IntKind.max,IntKind.signed,IntKind.bits] using h
end Go.Proofs.YtegaapiocihcpaaGreatDoor
namespace Go.Proofs.YtegaapiocihcpaaGreatDoor
open Go.ChangeShapes Go.WideShapes Go.ChangeAt Go.RowKit
theorem gType_w:(Tryz.prog.globals[0]?).map (·.type)=some 181:=by kernel_rfl
theorem gType_p:(Tryz.prog.globals[2]?).map (·.type)=some 272:=by kernel_rfl
theorem cells_u8:Tryz.prog.cellsOf 5=1:=by kernel_rfl
theorem cells_u64:Tryz.prog.cellsOf 201=1:=by kernel_rfl
theorem cells_w:Tryz.prog.cellsOf 181=94:=by kernel_rfl
theorem cells_p:Tryz.prog.cellsOf 272=20:=by kernel_rfl
def nums:DataW Unit→Array Value
 |.agg xs=>(xs.map fun x=>match x with|.lit (.int k z)=>Value.int k z|_=>.bool false).toArray
 |_=>#[]
def lay (w:World)(b:Nat)(d:DataW Unit):World:=
 {w with heap:=w.heap.modify b fun|.cells _ t fr=>.cells (nums d) t fr|o=>o}
noncomputable def laidWorld (os:Os):World:=
 lay (lay (lay (lay (World.holding Tryz.prog os ⟨#[],#[],[]⟩) 0 Rows.laid_rollbook_glyph_widths) 2 Rows.laid_internal_strconv_uint64pow10) 4 Rows.laid_math_bits_deBruijn32tab) 5 Rows.laid_math_bits_deBruijn64tab
theorem own:ownKnob Tryz.prog.godebug=none:=by kernel_rfl
theorem laidOut:laidOutB Tryz.prog=true:=by kernel_rfl
theorem Qen:Tryz.prog.cellsOf 3=1:=by kernel_rfl
end Go.Proofs.YtegaapiocihcpaaGreatDoor
namespace Go.Proofs.YtegaapiocihcpaaGreatDoor
open Go.ChangeShapes Go.WideShapes Go.ChangeAt Go.RowKit
def laidL5:List (String × DataW Unit):=Rows.certifyBooksRow.laid
theorem gType_k:(Tryz.prog.globals[1]?).map (·.type)=some 263:=by kernel_rfl
theorem filt_k5:laidL5.filter (fun x=>x.1== "rollbook/digest.rounds")=[("rollbook/digest.rounds",Lib.tabData .u32 (KSZ.map fun k:Nat=>(k:Int)))]:=by kernel_rfl
theorem filt_w5:laidL5.filter (fun x=>x.1== "rollbook/glyph.widths")=[("rollbook/glyph.widths",Lib.tabData .u8 wTab)]:=by kernel_rfl
theorem filt_p5:laidL5.filter (fun x=>x.1== "internal/strconv.uint64pow10")=[("internal/strconv.uint64pow10",Lib.tabData .u64 Lib.pow10Tab)]:=by kernel_rfl
theorem cells_u32:Tryz.prog.cellsOf 182=1:=by kernel_rfl
theorem cells_k:Tryz.prog.cellsOf 263=64:=by kernel_rfl
theorem tabs_of5 {W:World}(h:laidMetH Tryz.prog laidL5 W):Tabs W∧KLaid W:=by
 have hk:=h.filter (fun x=>x.1== "rollbook/digest.rounds");have hw:=h.filter (fun x=>x.1== "rollbook/glyph.widths");have hp:=h.filter (fun x=>x.1== "internal/strconv.uint64pow10");rw[filt_k5] at hk;rw[filt_w5] at hw;rw[filt_p5] at hp
 exact⟨⟨Lib.tabIs_of_head (rest:=[]) gW gType_w Tryz.underlying181 Tryz.underlying5 cells_u8 cells_w hw,Lib.tabIs_of_head (rest:=[]) gP gType_p Tryz.underlying272 Tryz.underlying201 cells_u64 cells_p hp⟩,Lib.tabIs_of_head (rest:=[]) gK gType_k Tryz.underlying263 Tryz.underlying182 cells_u32 cells_k hk⟩
noncomputable def laidWorld5 (os:Os):World:=lay (laidWorld os) 1 Rows.laid_rollbook_digest_rounds
end Go.Proofs.YtegaapiocihcpaaGreatDoor
namespace Go.Proofs.YtegaapiocihcpaaGreatDoor
open Go.RowKit
section
variable {P:Program} {ops:Array Oper} {md:Region.Mode} {C:World→Prop} {m:Nat}
def wpAnyT (P:Program)(md:Region.Mode)(ops:Array Oper)(C:World→Prop)(m:Nat)(Q:Act→Prop):Nat→Array Bool→Act→Prop
 |0,listed,a=>Region.ready md ops listed=[m]∧listed.getD m false=false∧Region.ready md ops (listed.setIfInBounds m true)=[]∧Q a
 |fuel+1,listed,a=>Region.ready md ops listed≠[]∧∀i∈Region.ready md ops listed,i≠m∧qOp P ops C i (wpAnyT P md ops C m Q fuel (listed.setIfInBounds i true)) a
theorem wpAny_of_T {Q:Act→Prop}{Q':Exit→Act→World→Prop}(hQ:∀a w,C w→Q a→wpOp P ops Q' m (fun a w=>Q' .normal a w) a w):∀(fuel:Nat) (listed:Array Bool) (a:Act) (w:World),C w→ wpAnyT P md ops C m Q fuel listed a→wpAny P md ops Q' (fuel+1) listed a w
 |0,listed,a,w,hw,h=>by
  obtain⟨h1,_,h3,h4⟩:=h;refine⟨fun h0=>(by rw[h1] at h0;cases h0),fun i hi=>?_⟩;rw[h1,List.mem_singleton] at hi;subst hi;exact wpOp_mono (fun a w hn=>⟨h3,hn⟩) (hQ a w hw h4)
 |fuel+1,_,_,_,hw,h=>⟨fun h0=>absurd h0 h.1,fun i hi=>wpOp_of_qOp hw (fun a' w' hw'=>wpAny_of_T hQ fuel _ a' w' hw') (h.2 i hi).2⟩
theorem wpAnyT_first {Q:Act→Prop}{i:Nat}{oi:Oper}{v:Value}(hi:ops[i]? =some oi)(hsel:∀(j:Nat) (o:Oper) cs b,ops[j]? =some o→o.op≠.select cs b)(him:i≠m) (hcov:∀om,ops[m]? =some om→∃e∈om.after,Region.binds md e=true∧e.on=i):
 ∀(fuel:Nat) (listed:Array Bool) (a:Act),(∀j oj,ops[j]? =some oj→j≠i→listed.getD j true=false→(∀e∈oj.after,Region.binds md e=true→e.on≠i)→oi.apart ops oj=true)→ i∈Region.ready md ops listed→YieldsIn P ops C oi v a→ wpAnyT P md ops C m Q fuel (listed.setIfInBounds i true) (a.put oi.dst v)→wpAnyT P md ops C m Q (fuel+1) listed a:=by
 have hnotof:∀(listed:Array Bool) (j:Nat),i∈Region.ready md ops listed→j∈Region.ready md ops listed→∀oj,ops[j]? =some oj→∀e∈oj.after,Region.binds md e=true→e.on≠i:=fun listed j hr hj oj hoj e he hb heq=>by
  obtain⟨hjun,oj',hoj',hall⟩:=mem_ready.1 hj;rw[hoj] at hoj';cases hoj';have h1:=hall e he hb;have h0:=(mem_ready.1 hr).1;rw[heq] at h1;rcases Nat.lt_or_ge i listed.size with h'|h'
  ·simp[h'] at h0 h1;rw[h0] at h1;cases h1
  ·simp[Array.getElem?_eq_none h'] at h1
 have hnm:∀(listed:Array Bool) (j:Nat),i∈Region.ready md ops listed→j∈Region.ready md ops listed→j≠m:=fun listed j hr hj hjm=>by
  subst hjm;obtain⟨_,oj,hoj,_⟩:=mem_ready.1 hj;obtain⟨e,he,hb,heq⟩:=hcov oj hoj;exact hnotof listed j hr hj oj hoj e he hb heq
 intro fuel;induction fuel with
 |zero=>
  intro listed a _ hr hy H;refine⟨fun h=>(by rw[h] at hr;cases hr),fun j hj=>?_⟩;by_cases hji:j=i
  ·subst hji;exact⟨him,hy.qOp hi H⟩
  ·have h2:=ready_mono hj hji;rw[H.1,List.mem_singleton] at h2;exact absurd h2 (hnm listed j hr hj)
 |succ fuel ih=>
  intro listed a hfree hr hy H;refine⟨fun h=>(by rw[h] at hr;cases hr),fun j hj=>?_⟩;by_cases hji:j=i
  ·subst hji;exact⟨him,hy.qOp hi H⟩
  ·have h1:=(H.2 j (ready_mono hj hji)).2;obtain⟨hjun,oj,hoj,hall⟩:=mem_ready.1 hj;have hnot:∀e∈oj.after,Region.binds md e=true→e.on≠i:=hnotof listed j hr hj oj hoj;have h2:=qOp_put hoj (hfree j oj hoj hji hjun hnot) (fun cs b=>hsel i oi cs b hi) (fun cs b=>hsel j oj cs b hoj) hy h1;have hfree':∀k ok,ops[k]? =some ok→k≠i→(listed.setIfInBounds j true).getD k true=false→ (∀e∈ok.after,Region.binds md e=true→e.on≠i)→oi.apart ops ok=true:=fun k ok hk hki hun hno=>by
    refine hfree k ok hk hki ?_ hno;by_cases hjk:j=k
    ·subst hjk;exact hjun
    ·rw[Go.getD_set_ne true hjk] at hun;exact hun
   refine⟨hnm listed j hr hj,qOp_mono (fun a' h3=>ih (listed.setIfInBounds j true) a' hfree' (ready_mono hr (Ne.symm hji)) h3.1 ?_) h2⟩;rw[Array.setIfInBounds_comm _ _ hji];exact h3.2
def lexT (md:Region.Mode)(ops:Array Oper):Nat→Nat→Array Bool→Bool
 |0,k,listed=>Region.ready md ops listed==[k]&& !(listed.getD k false)&&(Region.ready md ops (listed.setIfInBounds k true)).isEmpty
 |n+1,k,listed=>(Region.ready md ops listed).contains k&&Region.free md ops listed k&&lexT md ops n (k+1) (listed.setIfInBounds k true)
def coversM (md:Region.Mode)(ops:Array Oper)(m:Nat):Bool:=
 (List.range m).all fun i=>((ops[m]?).map fun o=>o.after.any fun e=>Region.binds md e&&e.on==i).getD false
theorem coversM_spec (h:coversM md ops m=true)(i:Nat)(hi:i<m):∀om,ops[m]? =some om→∃e∈om.after,Region.binds md e=true∧e.on=i:=by
 intro om hom;have:=(List.all_eq_true.1 h) i (List.mem_range.2 hi);rw[hom] at this;simp only[Option.map_some,Option.getD_some,Array.any_eq_true'] at this;obtain⟨e,he,h⟩:=this;rw[Bool.and_eq_true,beq_iff_eq] at h;exact⟨e,he,h.1,h.2⟩
theorem wpAnyT_lex {Q:Act→Prop}(hs:Region.noSelect ops=true)(hc:coversM md ops m=true):∀(l:List Oper) (k:Nat) (listed:Array Bool) (a:Act),k+l.length=m→(∀j,j<l.length→l[j]? =ops[k+j]?)→ lexT md ops l.length k listed=true→wpQuiet P ops C Q l a→wpAnyT P md ops C m Q l.length listed a
 |[],k,listed,a,hk,_,hB,h=>by
  simp only[List.length_nil,Nat.add_zero] at hk;subst hk;simp only[List.length_nil,lexT,Bool.and_eq_true,beq_iff_eq,Bool.not_eq_true',List.isEmpty_iff] at hB;exact⟨hB.1.1,hB.1.2,hB.2,h⟩
 |o::l,k,listed,a,hk,hl,hB,h=>by
  have h0:ops[k]? =some o:=(by simpa using(hl 0 (by simp)).symm);simp only[qC,lexT,Bool.and_eq_true] at hB;obtain⟨⟨hr,hf⟩,hB'⟩:=hB;have hst:qOp P ops C k (wpQuiet P ops C Q l) a:=(by unfold qOp;simp only[h0];exact h);obtain⟨v,hy,hK⟩:=yieldsIn_of_qOp h0 hst;rw[qC] at hk
  exact wpAnyT_first h0 (Region.noSelect_spec hs) (by omega) (coversM_spec hc k (by omega)) l.length listed a (Region.free_spec h0 hf) (by simpa using hr) hy (wpAnyT_lex hs hc l (k+1) _ _ (by omega) (fun j hj=>by have:=hl (j+1) (by simpa using hj);simpa[Nat.add_assoc,Nat.add_comm 1 j] using this) hB' hK)
def lexTB (l:List Oper):Bool:=Region.noSelect l.toArray&&coversM .any l.toArray (l.length-1)&&lexT .any l.toArray (l.length-1) 0 (Array.replicate l.length false)
theorem wp_region_last {id:Nat}{Q:Exit→Act→World→Prop}{a:Act}{w:World}{l:List Oper}{o:Oper}(hm:P.follows .mixedOrders=true)(hB:lexTB (l++[o])=true)
 (h:∀(T:Type) (_:Nonempty T) (f:T→World),(∀d,Below w.heap.size w (f d))→(∀d w',Below (f d).heap.size (f d) w'→∃m,w'=f m)→ wpQuiet P (l++[o]).toArray (fun w'=>∃n,w'=f n) (fun a'=>∀w',(∃n,w'=f n)→Region.wanted o (yielded (l++[o]).toArray a'.tmps)=true∧o.wp P a' w' (fun a w=>Q .normal a w) Q) l a):(Code.region id (l++[o]).toArray true).wp P Q a w:=by
 simp only[lexTB,Bool.and_eq_true,qA,List.length_singleton,Nat.add_sub_cancel] at hB;have hsz:(l++[o]).toArray.size=l.length+1:=by simp
 refine wp_region_any hm ?_;rw[hsz]
 refine wpAny_of_T (C:=fun w'=>∃n,w'=(Subtype.val:{x:World // Below w.heap.size w x}→World) n) (m:=l.length) (Q:=fun a'=>∀w',(∃n,w'=(Subtype.val:{x:World // Below w.heap.size w x}→World) n)→Region.wanted o (yielded (l++[o]).toArray a'.tmps)=true∧o.wp P a' w' (fun a w=>Q .normal a w) Q) (fun a w' hw h=>?_) l.length _ a _ ⟨⟨_,(Below.refl _ w).drew⟩,rfl⟩ (wpAnyT_lex hB.1.1 hB.1.2 l 0 _ a (by simp) (fun j hj=>by simp[List.getElem?_append_left hj]) hB.2 (h _ ⟨⟨_,(Below.refl _ w).drew⟩⟩ Subtype.val (fun d=>d.2) (fun d w' hb=>⟨⟨w',d.2.trans (hb.mono d.2.size)⟩,rfl⟩)))
 unfold wpOp;have ho:(l++[o]).toArray[l.length]? =some o:=by simp
 obtain⟨h1,h2⟩:=h w' hw;simp only[ho,h1,if_true];exact .inl h2
theorem Qbt {id:Nat}{Q:Exit→Act→World→Prop}{a:Act}{w:World}{l:List Oper}{o:Oper}(ho:l.dropLast++[o]=l)(hm:P.follows .mixedOrders=true)(hB:lexTB l=true)
 (h:∀(T:Type) (_:Nonempty T) (f:T→World),(∀d,Below w.heap.size w (f d))→(∀d w',Below (f d).heap.size (f d) w'→∃m,w'=f m)→ wpQuiet P l.toArray (fun w'=>∃n,w'=f n) (fun a'=>∀w',(∃n,w'=f n)→Region.wanted o (yielded l.toArray a'.tmps)=true∧o.wp P a' w' (fun a w=>Q .normal a w) Q) l.dropLast a):(Code.region id l.toArray true).wp P Q a w:=by
 rw[←ho] at hB h ⊢;rw[List.dropLast_concat] at h;exact wp_region_last hm hB h
end
end Go.Proofs.YtegaapiocihcpaaGreatDoor
