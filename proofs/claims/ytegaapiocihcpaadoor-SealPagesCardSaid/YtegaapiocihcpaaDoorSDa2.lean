/- Texts of SpC. -/
import Derived.Test.YtegaapiocihcpaaDoorSDa1
import Derived.Deep.CutRange
import Derived.Shelf.Small.Bits
import Derived.Shelf.Strconv.Itoa0
import Derived.Shelf.Bits.Mul64
import Derived.Test.YtegaapiocihcpaaDoorProg
import Derived.Lib.ItoaLen
import Derived.Lib.AppendIntMem
import Derived.Test.YtegaapiocihcpaaDoorRows
import Derived.WalkKit
import Derived.ProofKit
import Derived.OpenShut
import Derived.JoinedCond
import Derived.Test.YtegaapiocihcpaaDoorCards
import Derived.Test.YtegaapiocihcpaaDoorTie
import Derived.Deep.DeepHandedRow
import Derived.Deep.QuietTactic
import Derived.BigQuiet
import Derived.Deep.RegionHeld3
import Derived.Deep.DrawnRows
import Derived.Lib.SliceRun
import Derived.Lib.LazyBuf
import Derived.BigRegion
set_option maxHeartbeats 4000000
namespace Go.Proofs.YtegaapiocihcpaaDoor
open Go.RowKit
def QaH (p:Nat→Bool)(l:List (List Word)):Bool:=l.any fun x=>p x.length
theorem anyLen_take (p:Nat→Bool)(l:List (List Word))(k:Nat)(h:k<l.length):QaH p (l.take (k+1))=(QaH p (l.take k)||p l[k].length):=by
 unfold QaH;rw[qT h,List.any_append];simp
theorem anyLen_hit (p:Nat→Bool)(l:List (List Word))(k:Nat)(h:k<l.length)(hp:p l[k].length=true):QaH p l=true:=by
 unfold QaH;rw[List.any_eq_true];exact⟨_,List.getElem_mem h,hp⟩
def IsIdx (p:Nat→Bool)(l:List (List Word))(w:World)(e:Ending)(w':World):Prop:=∃r:Int,e=.returned (.int .i64 r)∧decide (0≤r)=QaH p l∧w=w'
theorem indexFunc_any (A:Option Addr)(c n:Nat)(l:List (List Word))(f:FuncId)(p:Nat→Bool)(w:World)(hl:Sl w (fun b=>b<w.heap.size) A c l)(hn:l.length=n) (hcf:∀(w':World) (args:Array Value),(callFunc f args).run Tryd.prog w'=.ok (.enter f args) w') (hf:∀(Ap:Option Addr) (n cp:Nat) (w':World),n≤9223372036854775807→Calls Tryd.prog f #[.slice Ap n cp] w' fun e w''=>e=.returned (.bool (p n))∧w'=w''):
 Calls Tryd.prog 86 #[.slice A n c,.func (.func f) #[] #[]] w (IsIdx p l w):=by
 subst hn;have hlen:l.length≤9223372036854775807:=by have:=hl.1;have:=hl.2.1;unfold maxLen at this;omega
 have Hf:=Lh hf;have Hl:=Lh hl;clear hf hl;go_enter Tryd.func86,Tryd.ntmps86;go_wp2_with fail;go_loopw [5,8] (fun _ i wr=>∃k:Nat,k≤l.length∧i=.int .i64 k∧Hid (QaH p (l.take k)=false)∧wr=w) (fun _ i _=>l.length-(intOf i).toNat);(case atStart=>exact⟨0,Nat.zero_le _,rfl,rfl,rfl⟩);case round=>
  obtain⟨k,hk,rfl,hno,rfl⟩:=hrel;by_cases hlt:k<l.length
  ·obtain⟨b,o,Ap,cp,rfl,_,hbl,hc,hp⟩:=Qbw Hl.out hlt;have hkl:(k:Int)<(l.length:Int):=(by omega);have hk0:(0:Int)≤(k:Int):=(by omega);have HT:=Lh (anyLen_take p l k hlt);have HH:=Lh (anyLen_hit p l k hlt);have h2:l[k].length≤9223372036854775807:=(by have:=hp.1;have:=hp.2.1;unfold maxLen at this;omega);generalize l[k].length=q at*;clear hp;go_wp2_with fail;refine(Hf.out Ap q cp _ h2).mono ?_;rintro e w' ⟨rfl,rfl⟩;cases hp:p q
   ·have E:=Lh (show QaH p (l.take (k+1))=false by rw[HT.out,hno.out,hp];rfl);clear hp;go_wp2_with fail;go_roundw;(case rel=>exact⟨k+1,by omega,by go_num,E.out,by first|trivial|rfl⟩);case measure=>simp[intOf];omega
   ·have E:=Lh (HH.out hp);clear hp;go_wp2_with fail;go_ret;exact⟨k,rfl,by rw[E.out];exact decide_eq_true hk0,rfl⟩
  ·have E:=Lh (show QaH p l=false by have:=hno.out;rwa [List.take_of_length_le (by omega)] at this);go_wp2_with fail;go_ret;exact⟨-1,rfl,by rw[E.out];rfl,rfl⟩
theorem QbC (A:Option Addr)(c n:Nat)(l:List (List Word))(f:FuncId)(p:Nat→Bool)(w:World)(hl:Sl w (fun b=>b<w.heap.size) A c l)(hn:l.length=n) (hcf:∀(w':World) (args:Array Value),(callFunc f args).run Tryd.prog w'=.ok (.enter f args) w') (hf:∀(Ap:Option Addr) (n cp:Nat) (w':World),n≤9223372036854775807→Calls Tryd.prog f #[.slice Ap n cp] w' fun e w''=>e=.returned (.bool (p n))∧w'=w''):
 Calls Tryd.prog 75 #[.slice A n c,.func (.func f) #[] #[]] w fun e w'=>e=.returned (.bool (QaH p l))∧w=w':=by
 have Hi:=Lh (indexFunc_any A c n l f p w hl hn hcf hf);clear hl hf hcf;go_enter Tryd.func75,Tryd.ntmps75;go_wp2_with fail;refine Hi.out.mono ?_;rintro e w' ⟨r,rfl,hr,rfl⟩;have Hr:=Lh hr;clear hr;go_wp2_with fail;go_ret;exact⟨Qao Hr.out,rfl⟩
def Qdu (n:Nat):Bool:=decide (500<n)
def QbX (n:Nat):Bool:=decide (n=0)
theorem long_any (Ap:Option Addr)(n cp:Nat)(w:World)(hn:n≤9223372036854775807):Calls Tryd.prog 76 #[.slice Ap n cp] w fun e w'=>e=.returned (.bool (Qdu n))∧w=w':=by
 go_enter Tryd.func76,Tryd.ntmps76;go_wp2_with fail;go_ret;exact⟨Qao (by unfold Qdu;rw[decide_eq_decide];omega),rfl⟩
theorem empty_any (Ap:Option Addr)(n cp:Nat)(w:World)(_hn:n≤9223372036854775807):Calls Tryd.prog 77 #[.slice Ap n cp] w fun e w'=>e=.returned (.bool (QbX n))∧w=w':=by
 go_enter Tryd.func77,Tryd.ntmps77;go_wp2_with fail;go_ret;exact⟨Qao (by unfold QbX;rw[Bool.eq_iff_iff];simp),rfl⟩
def badW (x:Word):Bool:= !Qa6 x.s||(decide (x.key≠⟨#[]⟩)&& !Qa6 x.key)
def QbD (np nn i:Nat)(notes:Int)(x:Word):Int × Int:=
 if badW x=true then(7,notes) else if x.t≠0∧x.t≠1 then(5,notes)
 else if x.n=0 then(0,notes) else if np≤i∨x.n≠notes+1∨(nn:Int)<notes+1 then(5,notes+1) else(0,notes+1)
def Qav (np nn i:Nat):Int→List Word→Int × Int
 |notes,[]=>(0,notes)
 |notes,x::r=>if(QbD np nn i notes x).1=0 then Qav np nn i (QbD np nn i notes x).2 r else QbD np nn i notes x
def Qbd (np nn:Nat):Nat→Int→List (List Word)→Int × Int
 |_,notes,[]=>(0,notes)
 |i,notes,p::r=>if(Qav np nn i notes p).1=0 then Qbd np nn (i+1) (Qav np nn i notes p).2 r else Qav np nn i notes p
def endP (nn:Nat)(r:Int × Int):Int:=if r.1≠0 then r.1 else if r.2≠nn then 3 else 0
def Qdn (a b:List (List Word)):Int:=
 if 100<a.length∨100<b.length∨QaH Qdu (a++b)=true then 2 else if QaH QbX (a++b)=true then 1 else endP b.length (Qbd a.length b.length 0 0 (a++b))
theorem scanW_ok {np nn i:Nat}{notes n':Int}{p:List Word}{j:Nat}(hj:j<p.length)(h:QbD np nn i notes p[j]=(0,n')):Qav np nn i notes (p.drop j)=Qav np nn i n' (p.drop (j+1)):=by
 rw[List.drop_eq_getElem_cons hj,Qav,h];simp
theorem scanW_err {np nn i:Nat}{notes n' e:Int}{p:List Word}{j:Nat}(hj:j<p.length)(h:QbD np nn i notes p[j]=(e,n'))(he:e≠0):(Qav np nn i notes (p.drop j))=(e,n'):=by
 rw[List.drop_eq_getElem_cons hj,Qav,h];simp[he]
theorem scanP_ok {np nn i:Nat}{notes n':Int}{l:List (List Word)}(hi:i<l.length)(h:Qav np nn i notes l[i]=(0,n')):Qbd np nn i notes (l.drop i)=Qbd np nn (i+1) n' (l.drop (i+1)):=by
 rw[List.drop_eq_getElem_cons hi,Qbd,h];simp
theorem scanP_err {np nn i:Nat}{notes n' e:Int}{l:List (List Word)}(hi:i<l.length)(h:Qav np nn i notes l[i]=(e,n'))(he:e≠0):Qbd np nn i notes (l.drop i)=(e,n'):=by
 rw[List.drop_eq_getElem_cons hi,Qbd,h];simp[he]
theorem step_bad {np nn i:Nat}{notes:Int}{x:Word}(h:badW x=true):QbD np nn i notes x=(7,notes):=by unfold QbD;rw[if_pos h]
theorem step_tab {np nn i:Nat}{notes:Int}{x:Word}(h:badW x=false)(ht:x.t≠0∧x.t≠1):QbD np nn i notes x=(5,notes):=by unfold QbD;rw[if_neg (by rw[h];simp),if_pos ht]
theorem QbO {np nn i:Nat}{notes:Int}{x:Word}(h:badW x=false)(ht:x.t=0∨x.t=1)(hn:x.n=0):QbD np nn i notes x=(0,notes):=by unfold QbD;rw[if_neg (by rw[h];simp),if_neg (by omega),if_pos hn]
theorem Qdi {np nn i:Nat}{notes:Int}{x:Word}(h:badW x=false)(ht:x.t=0∨x.t=1)(hn:x.n≠0)(hh:¬(np≤i∨x.n≠notes+1∨(nn:Int)<notes+1)):QbD np nn i notes x=(0,notes+1):=by unfold QbD;rw[if_neg (by rw[h];simp),if_neg (by omega),if_neg hn,if_neg hh]
theorem step_far {np nn i:Nat}{notes:Int}{x:Word}(h:badW x=false)(ht:x.t=0∨x.t=1)(hn:x.n≠0)(hh:np≤i∨x.n≠notes+1∨(nn:Int)<notes+1):QbD np nn i notes x=(5,notes+1):=by unfold QbD;rw[if_neg (by rw[h];simp),if_neg (by omega),if_neg hn,if_pos hh]
theorem bad_s {x:Word}(h:Qa6 x.s=false):badW x=true:=by unfold badW;rw[h];rfl
theorem bad_key {x:Word}(h:x.key≠⟨#[]⟩)(hk:Qa6 x.key=false):badW x=true:=by unfold badW;rw[hk,decide_eq_true h];simp
theorem good_nokey {x:Word}(h:Qa6 x.s=true)(hk:x.key=⟨#[]⟩):badW x=false:=by unfold badW;rw[h,hk];rfl
theorem good_key {x:Word}(h:Qa6 x.s=true)(hk:Qa6 x.key=true):badW x=false:=by unfold badW;rw[h,hk];simp
end Go.Proofs.YtegaapiocihcpaaDoor
namespace Go.Proofs.YtegaapiocihcpaaDoor
/-! ## Lines -/
def QaP (ws:List Int)(m:Int):Int:=ws.foldl (fun s w=>s-(w+6)) (m+6)
def scanE (n:Nat):List Int→List (Int × Nat)→Int→Nat→Bool→Int × Nat→Int × Nat
 |[],_,_,_,_,cur=>cur
 |w::ws,r,s,j,first,cur=>
  if s-(w+6)<0 then cur
  else if j=n then(0,n)
  else if first=true∨(s-(w+6))*(s-(w+6))+(r.headD (0,0)).1≤cur.1 then scanE n ws r.tail (s-(w+6)) (j+1) false ((s-(w+6))*(s-(w+6))+(r.headD (0,0)).1,j)
  else scanE n ws r.tail (s-(w+6)) (j+1) false cur
def bestL (ws:List Int)(m:Int):Nat→List (Int × Nat)
 |0=>[(0,0)]
 |k+1=>scanE ws.length (ws.drop (ws.length-(k+1))) (bestL ws m k) (m+6) (ws.length-(k+1)+1) true (0,0)::bestL ws m k
def chainE (es:List Nat)(n:Nat):Nat→Nat→List Nat
 |0,_=>[]
 |f+1,i=>if i<n then es.getD i 0::chainE es n f (es.getD i 0) else[]
def endsP (ws:List Int)(m:Int):List Nat:=chainE ((bestL ws m ws.length).map (·.2)) ws.length ws.length 0
def Qdl (ws:List Int)(m:Int)(last:Bool):List Int:=
 if ws.length≤1 then[] else if last=true then List.replicate (ws.length-1) 6
 else(List.range (ws.length-1)).map fun(i:Nat)=>6+(QaP ws m).tdiv ((ws.length-1:Nat):Int)+if(i:Int)<(QaP ws m).tmod ((ws.length-1:Nat):Int) then 1 else 0
structure LineP where
 fr:Int
 un:Int
 gaps:List Int
 notes:List Int
deriving DecidableEq
def Qdm {α:Type}(l:List α)(i j:Nat):List α:=(l.take j).drop i
def Qaw (l:List Word):List Int:=(l.filter fun x=>decide (x.n≠0)).map fun x=>x.n-1
def Qai (ws:List Word)(wd:List Int)(m first:Int):Nat→List Nat→List LineP
 |_,[]=>[]
 |i,e::es=>⟨first+i,first+e,Qdl (Qdm wd i e) m (decide (es=[])),Qaw (Qdm ws i e)⟩::Qai ws wd m first e es
def Qab (ws:List Word):List Int:=ws.map fun x=>QaV x.s
def setP (ws:List Word)(first m:Int):List LineP:=Qai ws (Qab ws) m first 0 (endsP (Qab ws) m)
def Qaj (m:Int):Int→List (List Word)→List (List LineP)
 |_,[]=>[]
 |first,p::ps=>setP p first m::Qaj m (first+p.length) ps
def QaA (a:List (List Word))(m:Int):List LineP:=(Qaj m 0 a).flatten
def Qah (a b:List (List Word))(m:Int):List (List LineP):=Qaj m (tot a:Nat) b
def Qa3 (a b:List (List Word))(m:Int):Int:=if Qdn a b≠0 then Qdn a b else if 500≤m∧m≤2000 then 0 else 5
/-! ## Pages -/
structure PageP where
 num:Int
 suf:Int
 entry:Int
 ver:Int
 body:List LineP
 notes:List LineP
deriving DecidableEq
def Qaa (notes:List (List LineP))(x:LineP):List LineP:=x.notes.flatMap fun n=>notes.getD n.toNat []
def Qce (h lines shown:Nat):Int:=(h:Int)-lines-shown-(min shown 1:Nat)
def Qb2 (h lines shown queue:Nat)(x:LineP):Bool:=
 if x.notes=[] then decide (0<Qce h lines shown) else decide (shown=queue)&&decide (3-((min shown 1:Nat):Int)≤Qce h lines shown)
def fillP (notes:List (List LineP))(h:Nat):List LineP→Nat→Nat→List LineP→Nat × Nat × List LineP
 |[],lines,shown,queue=>(lines,shown,queue)
 |x::body,lines,shown,queue=>
  if Qb2 h lines shown queue.length x=true then
   fillP notes h body (lines+1) (if shown<(queue++Qaa notes x).length then shown+min ((queue++Qaa notes x).length-shown) (h-(lines+1)-shown-1) else shown) (queue++Qaa notes x)
  else(lines,shown,queue)
def setPages (notes:List (List LineP))(h:Nat):Nat→List LineP→List LineP→List PageP
 |0,_,_=>[]
 |f+1,body,queue=>
  if body=[]∧queue=[] then[]
  else
   let r:=fillP notes h body 0 (min queue.length (h-1)) queue
   ⟨0,0,0,0,body.take r.1,r.2.2.take r.2.1⟩::setPages notes h f (body.drop r.1) (r.2.2.drop r.2.1)
def Qa0 (n:Nat):Int→List Int→Option Int
 |next,[]=>some next
 |next,k::ks=>if k≠next∨(n:Int)≤k then none else Qa0 n (next+1) ks
def QaQ (body:List LineP)(notes:List (List LineP))(h:Int):Int:=
 if h<4∨100<h then 5 else if notes.any (fun l=>decide (l=[]))=true then 1
 else match Qa0 notes.length 0 (body.flatMap (·.notes)) with
  |none=>12
  |some k=>if k<notes.length then 3 else 0
def Qag (body:List LineP)(notes:List (List LineP)):Nat:=(body.map fun x=>1+(Qaa notes x).length).sum
def Qar (a b:List (List Word))(m:Int)(h:Nat):List PageP:=
 setPages (Qah a b m) h (Qag (QaA a m) (Qah a b m)) (QaA a m) []
def textE (a b:List (List Word))(m h:Int):Int:=if Qa3 a b m≠0 then Qa3 a b m else QaQ (QaA a m) (Qah a b m) h
/-! ## Books -/
structure TextP where
 a:List (List Word)
 b:List (List Word)
structure SectP where
 entry:Int
 frozen:Bool
 vers:List Int
 texts:List TextP
structure BookP where
 m:Int
 h:Int
 sects:List SectP
def QaD (entry ver num suf:Int):Nat→List PageP→List PageP
 |_,[]=>[]
 |k,p::ps=>{p with num:=if k=0 then num+1 else num,suf:=if k=0 then suf else suf+1,entry:=entry,ver:=ver}::QaD entry ver (if k=0 then num+1 else num) (if k=0 then suf else suf+1) k ps
/-! ## Where lines end -/
theorem QdF (n:Nat):∀(ws:List Int) (r:List (Int × Nat)) (s:Int) (j:Nat) (first:Bool) (cur:Int × Nat),j+ws.length≤n+1→ scanE n ws r s j first cur=cur∨(j≤(scanE n ws r s j first cur).2∧(scanE n ws r s j first cur).2≤n)
 |[],_,_,_,_,_,_=>.inl rfl
 |w::ws,r,s,j,first,cur,h=>by
  rw[qC] at h;rw[scanE];split
  ·exact .inl rfl
  ·split
   ·rename_i hj;right;simp only;omega
   ·split
    ·rcases QdF n ws r.tail (s-(w+6)) (j+1) false ((s-(w+6))*(s-(w+6))+(r.headD (0,0)).1,j) (by omega) with h1|h1
     ·right;rw[h1];simp only;omega
     ·right;omega
    ·rcases QdF n ws r.tail (s-(w+6)) (j+1) false cur (by omega) with h1|h1
     ·left;exact h1
     ·right;omega
theorem scanE_first (n:Nat)(w:Int)(ws:List Int)(r:List (Int × Nat))(s:Int)(j:Nat)(cur:Int × Nat)(h:j+(ws.length+1)≤n+1)(hs:0≤s-(w+6)):
 j≤(scanE n (w::ws) r s j true cur).2∧(scanE n (w::ws) r s j true cur).2≤n:=by
 rw[scanE,if_neg (by omega)];split
 ·simp only;omega
 ·rw[if_pos (.inl rfl)];rcases QdF n ws r.tail (s-(w+6)) (j+1) false ((s-(w+6))*(s-(w+6))+(r.headD (0,0)).1,j) (by omega) with h1|h1
  ·rw[h1];simp only;omega
  ·omega
theorem QaZ (ws:List Int)(m:Int):∀k,(bestL ws m k).length=k+1
 |0=>rfl
 |k+1=>by rw[bestL,qC,QaZ ws m k]
theorem bestL_get (ws:List Int)(m:Int):∀k i,i<k→(bestL ws m k)[i]? =some (scanE ws.length (ws.drop (ws.length-(k-i))) (bestL ws m (k-i-1)) (m+6) (ws.length-(k-i)+1) true (0,0))
 |0,_,h=>absurd h (Nat.not_lt_zero _)
 |k+1,0,_=>by rw[bestL];rfl
 |k+1,i+1,h=>by
  rw[bestL,List.getElem?_cons_succ,bestL_get ws m k i (by omega)];have e1:k+1-(i+1)=k-i:=(by omega);rw[e1]
def bestAt (ws:List Int)(m:Int)(i:Nat):Int × Nat:=(bestL ws m ws.length).getD i (0,0)
theorem bestAt_eq (ws:List Int)(m:Int)(i:Nat)(h:i<ws.length):bestAt ws m i=scanE ws.length (ws.drop i) (bestL ws m (ws.length-i-1)) (m+6) (i+1) true (0,0):=by
 unfold bestAt;rw[List.getD_eq_getElem?_getD,bestL_get ws m _ i h];have e1:ws.length-(ws.length-i)=i:=by omega
 rw[e1];rfl
structure Reg (ws:List Int)(m:Int):Prop where
 n:ws.length≤500
 lo:500≤m
 hi:m≤2000
 w:∀x∈ws,1≤x∧x≤480
theorem bestAt_end {ws:List Int}{m:Int}(hr:Reg ws m)(i:Nat)(h:i<ws.length):i<(bestAt ws m i).2∧(bestAt ws m i).2≤ws.length:=by
 rw[bestAt_eq ws m i h];obtain⟨w,hw⟩:∃w,ws[i]=w:=⟨_,rfl⟩;have hwm:=hr.w ws[i] (List.getElem_mem h);rw[List.drop_eq_getElem_cons h,hw] at*;have:=hr.lo;have h2:=scanE_first ws.length w (ws.drop (i+1)) (bestL ws m (ws.length-i-1)) (m+6) (i+1) (0,0) (by rw[List.length_drop];omega) (by omega);omega
theorem Qcl (es:List Nat)(n:Nat)(he:∀i,i<n→i<es.getD i 0∧es.getD i 0≤n):∀f i,n-i≤f→i≤n→ (∀e∈chainE es n f i,i<e∧e≤n)∧(chainE es n f i).Pairwise (· < ·)∧(i<n→(chainE es n f i).getLast? =some n)∧(chainE es n f i=[]↔i=n)∧(chainE es n f i).length≤n-i
 |0,i,hf,hi=>by
  have:i=n:=(by omega);subst this;simp[chainE]
 |f+1,i,hf,hi=>by
  rw[chainE];by_cases h:i<n
  ·rw[if_pos h];obtain⟨h1,h2⟩:=he i h;obtain⟨a,b,c,d,e⟩:=Qcl es n he f (es.getD i 0) (by omega) h2;refine⟨?_,?_,fun _=>?_,?_,?_⟩
   ·intro x hx;rcases List.mem_cons.1 hx with rfl|hx
    ·exact⟨h1,h2⟩
    ·have:=a x hx;omega
   ·exact List.pairwise_cons.2 ⟨fun x hx=>(a x hx).1,b⟩
   ·by_cases hn:es.getD i 0<n
    ·rw[List.getLast?_cons,c hn];rfl
    ·have he:es.getD i 0=n:=by omega
     have hd:=d.2 he;rw[hd,he];rfl
   ·constructor
    ·intro hh;cases hh
    ·intro hh;omega
   ·rw[qC];omega
  ·rw[if_neg h];have:i=n:=(by omega);subst this;simp
/-! ## How pages are filled -/
def Qbs (h lines shown queue:Nat):Nat:=if shown<queue then shown+min (queue-shown) (h-(lines+1)-shown-1) else shown
theorem Qdd {h lines shown queue:Nat}(h1:shown≤queue):shown≤Qbs h lines shown queue∧Qbs h lines shown queue≤queue:=by
 unfold Qbs;split<;>omega
theorem QbP (notes:List (List LineP))(h:Nat)(x:LineP)(body:List LineP)(lines shown:Nat)(queue:List LineP):
 fillP notes h (x::body) lines shown queue=if Qb2 h lines shown queue.length x=true then fillP notes h body (lines+1) (Qbs h lines shown (queue++Qaa notes x).length) (queue++Qaa notes x) else(lines,shown,queue):=rfl
theorem QaW (notes:List (List LineP))(h:Nat):∀(body:List LineP) (lines shown:Nat) (queue:List LineP),shown≤queue.length→ ∃k,k≤body.length∧(fillP notes h body lines shown queue).1=lines+k∧shown≤(fillP notes h body lines shown queue).2.1∧(fillP notes h body lines shown queue).2.2=queue++(body.take k).flatMap (Qaa notes)∧ (fillP notes h body lines shown queue).2.1≤(fillP notes h body lines shown queue).2.2.length
 |[],lines,shown,queue,hs=>⟨0,Nat.le_refl _,rfl,Nat.le_refl _,by simp[fillP],hs⟩
 |x::body,lines,shown,queue,hs=>by
  rw[QbP];split
  ·obtain⟨h1,h2⟩:=Qdd (h:=h) (lines:=lines) (show shown≤(queue++Qaa notes x).length by rw[qA];omega);obtain⟨k,a,b,c,d,e⟩:=QaW notes h body (lines+1) _ (queue++Qaa notes x) h2;refine⟨k+1,by rw[qC];omega,by rw[b];omega,by omega,?_,e⟩;rw[d,List.take_succ_cons,List.flatMap_cons,List.append_assoc]
  ·exact⟨0,Nat.zero_le _,rfl,Nat.le_refl _,by simp,hs⟩
theorem fillP_takes (notes:List (List LineP))(h:Nat)(h4:4≤h)(body queue:List LineP)(hn:¬(body=[]∧queue=[])):
 1≤(fillP notes h body 0 (min queue.length (h-1)) queue).1+(fillP notes h body 0 (min queue.length (h-1)) queue).2.1:=by
 obtain⟨k,a,b,c,d,e⟩:=QaW notes h body 0 (min queue.length (h-1)) queue (Nat.min_le_left _ _);by_cases hq:queue=[]
 ·subst hq;cases body with
  |nil=>exact absurd ⟨rfl,rfl⟩ hn
  |cons x body=>
   have hf:Qb2 h 0 (min ([]:List LineP).length (h-1)) ([]:List LineP).length x=true:=by
    unfold Qb2 Qce;split
    ·simp;omega
    ·simp;omega
   rw[QbP,if_pos hf];obtain⟨h1,h2⟩:=Qdd (h:=h) (lines:=0) (show min ([]:List LineP).length (h-1)≤([]++Qaa notes x).length by simp);obtain⟨k,a,b,c,d,e⟩:=QaW notes h body (0+1) _ ([]++Qaa notes x) h2;omega
 ·have:0<queue.length:=List.length_pos_iff.2 hq;omega
theorem Qa5 (notes:List (List LineP))(body:List LineP)(k:Nat)(hk:k≤body.length):
 Qag (body.drop k) notes+k+((body.take k).flatMap (Qaa notes)).length=Qag body notes:=by
 induction body generalizing k with
 |nil=>simp at hk;subst hk;rfl
 |cons x body ih=>
  cases k with
  |zero=>simp
  |succ k=>
   have:=ih k (by rw[qC] at hk;omega);simp only[List.drop_succ_cons,List.take_succ_cons,List.flatMap_cons,qA,Qag,List.map_cons,List.sum_cons] at*;omega
theorem Qc5 (notes:List (List LineP))(h:Nat)(h4:4≤h)(body queue:List LineP)(hn:¬(body=[]∧queue=[])):
 let r:=fillP notes h body 0 (min queue.length (h-1)) queue
 Qag (body.drop r.1) notes+(r.2.2.drop r.2.1).length+1≤Qag body notes+queue.length:=by
 obtain⟨k,a,b,c,d,e⟩:=QaW notes h body 0 (min queue.length (h-1)) queue (Nat.min_le_left _ _);have h1:=fillP_takes notes h h4 body queue hn;have h2:=Qa5 notes body k a;rw[Nat.zero_add] at b;intro r;show Qag (body.drop (fillP notes h body 0 (min queue.length (h-1)) queue).1) notes+((fillP notes h body 0 (min queue.length (h-1)) queue).2.2.drop (fillP notes h body 0 (min queue.length (h-1)) queue).2.1).length+1≤_;have h3:(fillP notes h body 0 (min queue.length (h-1)) queue).2.2.length=queue.length+((body.take k).flatMap (Qaa notes)).length:=by rw[d,qA]
 generalize fillP notes h body 0 (min queue.length (h-1)) queue=F at*;rw[b,List.length_drop];omega
/-! ## Costs are small -/
theorem QcC (n:Nat)(B:Int)(hB:0≤B):∀(ws:List Int) (r:List (Int × Nat)) (s:Int) (j:Nat) (first:Bool) (cur:Int × Nat),(∀w∈ws,1≤w)→s≤2006→(∀x∈r,0≤x.1∧x.1≤B)→0≤cur.1→cur.1≤B+4100000→ 0≤(scanE n ws r s j first cur).1∧(scanE n ws r s j first cur).1≤B+4100000
 |[],_,_,_,_,_,_,_,_,h1,h2=>⟨h1,h2⟩
 |w::ws,r,s,j,first,cur,hw,hs,hr,h1,h2=>by
  have hw1:=hw w (by simp);have hr1:0≤(r.headD (0,0)).1∧(r.headD (0,0)).1≤B:=by
   cases r with
   |nil=>exact⟨Int.le_refl _,hB⟩
   |cons x r=>exact hr x (by simp)
  have ht:∀x∈r.tail,0≤x.1∧x.1≤B:=fun x hx=>hr x (List.mem_of_mem_tail hx)
  rw[scanE];split
  ·exact⟨h1,h2⟩
  ·rename_i hs0;have hq:(s-(w+6))*(s-(w+6))≤2006*2006:=Int.mul_le_mul (by omega) (by omega) (by omega) (by omega);have hq0:0≤(s-(w+6))*(s-(w+6)):=Int.mul_nonneg (by omega) (by omega);split
   ·simp only;omega
   ·split
    ·exact QcC n B hB ws _ _ _ _ _ (fun x hx=>hw x (by simp[hx])) (by omega) ht (by simp only;omega) (by simp only;omega)
    ·exact QcC n B hB ws _ _ _ _ _ (fun x hx=>hw x (by simp[hx])) (by omega) ht h1 h2
theorem bestL_cost {ws:List Int}{m:Int}(hr:Reg ws m):∀k,∀x∈bestL ws m k,0≤x.1∧x.1≤4100000*(k:Int)
 |0,x,hx=>by
  obtain rfl:=List.mem_singleton.1 hx;exact⟨Int.le_refl _,Int.le_refl _⟩
 |k+1,x,hx=>by
  have ih:=bestL_cost hr k;rcases List.mem_cons.1 hx with rfl|hx
  ·have:=QcC ws.length (4100000*(k:Int)) (by omega) (ws.drop (ws.length-(k+1))) (bestL ws m k) (m+6) (ws.length-(k+1)+1) true (0,0) (fun w hw=>(hr.w w (List.mem_of_mem_drop hw)).1) (by have:=hr.hi;omega) ih (by simp) (by simp only;omega);have e:(4100000*((k+1:Nat):Int))=4100000*(k:Int)+4100000:=(by omega);rw[e];exact this
  ·have:=ih x hx;omega
/-! ## The rows of costs and of ends -/
theorem scanE_step (n:Nat)(w:Int)(ws:List Int)(r:List (Int × Nat))(s:Int)(j:Nat)(first:Bool)(cur:Int × Nat)(h1:¬s-(w+6)<0)(h2:j≠n):
 scanE n (w::ws) r s j first cur=scanE n ws r.tail (s-(w+6)) (j+1) false (if first=true∨(s-(w+6))*(s-(w+6))+(r.headD (0,0)).1≤cur.1 then((s-(w+6))*(s-(w+6))+(r.headD (0,0)).1,j) else cur):=by
 rw[scanE,if_neg h1,if_neg h2];split<;>rfl
theorem scanE_neg (n:Nat)(w:Int)(ws:List Int)(r:List (Int × Nat))(s:Int)(j:Nat)(first:Bool)(cur:Int × Nat)(h1:s-(w+6)<0):scanE n (w::ws) r s j first cur=cur:=by rw[scanE,if_pos h1]
theorem scanE_last (n:Nat)(w:Int)(ws:List Int)(r:List (Int × Nat))(s:Int)(first:Bool)(cur:Int × Nat)(h1:¬s-(w+6)<0):scanE n (w::ws) r s n first cur=(0,n):=by rw[scanE,if_neg h1,if_pos rfl]
end Go.Proofs.YtegaapiocihcpaaDoor
namespace Go.Proofs.YtegaapiocihcpaaDoor
open Go.RowKit
instance:Rep LineP where
 size:=4
 R w S cs x:=∃va vb,cs=[.int .i64 x.fr,.int .i64 x.un,va,vb]∧Rep.R w S [va] x.gaps∧Rep.R w S [vb] x.notes
 len:=by rintro w S cs s ⟨va,vb,rfl,_⟩;rfl
 one:=by
  rintro w S cs s ⟨va,vb,rfl,ha,hb⟩ u hu;have h1:=Rep.one ha va (by simp);have h2:=Rep.one hb vb (by simp);simp at hu;rcases hu with rfl|rfl|rfl|rfl
  ·rfl
  ·rfl
  ·exact h1
  ·exact h2
 keep:=by rintro w w' S cs s ⟨va,vb,rfl,ha,hb⟩ hk;exact⟨va,vb,rfl,Rep.keep ha hk,Rep.keep hb hk⟩
 mono:=by rintro w S S' cs s ⟨va,vb,rfl,ha,hb⟩ hk;exact⟨va,vb,rfl,Rep.mono ha hk,Rep.mono hb hk⟩
instance:Rep PageP where
 size:=6
 R w S cs x:=∃va vb,cs=[.int .i64 x.num,.int .i64 x.suf,.int .i64 x.entry,.int .i64 x.ver,va,vb]∧Rep.R w S [va] x.body∧Rep.R w S [vb] x.notes
 len:=by rintro w S cs s ⟨va,vb,rfl,_⟩;rfl
 one:=by
  rintro w S cs s ⟨va,vb,rfl,ha,hb⟩ u hu;have h1:=Rep.one ha va (by simp);have h2:=Rep.one hb vb (by simp);simp at hu;rcases hu with rfl|rfl|rfl|rfl|rfl|rfl
  ·rfl
  ·rfl
  ·rfl
  ·rfl
  ·exact h1
  ·exact h2
 keep:=by rintro w w' S cs s ⟨va,vb,rfl,ha,hb⟩ hk;exact⟨va,vb,rfl,Rep.keep ha hk,Rep.keep hb hk⟩
 mono:=by rintro w S S' cs s ⟨va,vb,rfl,ha,hb⟩ hk;exact⟨va,vb,rfl,Rep.mono ha hk,Rep.mono hb hk⟩
instance:Rep TextP where
 size:=2
 R w S cs x:=∃va vb,cs=[va,vb]∧Rep.R w S [va] x.a∧Rep.R w S [vb] x.b
 len:=by rintro w S cs s ⟨va,vb,rfl,_⟩;rfl
 one:=by
  rintro w S cs s ⟨va,vb,rfl,ha,hb⟩ u hu;have h1:=Rep.one ha va (by simp);have h2:=Rep.one hb vb (by simp);simp at hu;rcases hu with rfl|rfl
  ·exact h1
  ·exact h2
 keep:=by rintro w w' S cs s ⟨va,vb,rfl,ha,hb⟩ hk;exact⟨va,vb,rfl,Rep.keep ha hk,Rep.keep hb hk⟩
 mono:=by rintro w S S' cs s ⟨va,vb,rfl,ha,hb⟩ hk;exact⟨va,vb,rfl,Rep.mono ha hk,Rep.mono hb hk⟩
instance:Rep SectP where
 size:=4
 R w S cs x:=∃va vb,cs=[.int .i64 x.entry,.bool x.frozen,va,vb]∧I64 x.entry∧Rep.R w S [va] x.vers∧Rep.R w S [vb] x.texts
 len:=by rintro w S cs s ⟨va,vb,rfl,_⟩;rfl
 one:=by
  rintro w S cs s ⟨va,vb,rfl,_,ha,hb⟩ u hu;have h1:=Rep.one ha va (by simp);have h2:=Rep.one hb vb (by simp);simp at hu;rcases hu with rfl|rfl|rfl|rfl
  ·rfl
  ·rfl
  ·exact h1
  ·exact h2
 keep:=by rintro w w' S cs s ⟨va,vb,rfl,hi,ha,hb⟩ hk;exact⟨va,vb,rfl,hi,Rep.keep ha hk,Rep.keep hb hk⟩
 mono:=by rintro w S S' cs s ⟨va,vb,rfl,hi,ha,hb⟩ hk;exact⟨va,vb,rfl,hi,Rep.mono ha hk,Rep.mono hb hk⟩

end Go.Proofs.YtegaapiocihcpaaDoor
namespace Go.Proofs
open Go.Shelf
def Tryd.lays212_ren:Go.Shelf.Ren:=⟨fun|212=>94|263=>96|264=>97|n=>n,fun|46=>92|51=>112|146=>155|53=>114|148=>157|n=>n,fun|n=>n⟩
theorem Tryd.lays212:Go.Proofs.Lays.n212 Tryd.prog Tryd.lays212_ren:={
 mixed:=by kernel_rfl
 f212:=Tryd.func94.trans (congrArg some (by kernel_rfl))
 f263:=Tryd.func96.trans (congrArg some (by kernel_rfl))
 f264:=Tryd.func97.trans (congrArg some (by kernel_rfl))
 t46:=Tryd.underlying92
 a46:=Tryd.isAgg92
 z46:=Tryd.sizeOf92
 v46:=Tryd.zeroValue92
 t51:=Tryd.underlying112
 a51:=Tryd.isAgg112
 z51:=Tryd.sizeOf112
 v51:=Tryd.zeroValue112
 t53:=Tryd.underlying114
 a53:=Tryd.isAgg114
 z53:=Tryd.sizeOf114
 v53:=Tryd.zeroValue114
 t146:=Tryd.underlying155
 a146:=Tryd.isAgg155
 z146:=Tryd.sizeOf155
 v146:=Tryd.zeroValue155
 t148:=Tryd.underlying157
 a148:=Tryd.isAgg157
 z148:=Tryd.sizeOf157
 v148:=Tryd.zeroValue157}
open Go.RowKit Go.Lib in
theorem Tryd.bits_Mul (x y:Nat)(hx:x<18446744073709551616)(hy:y<18446744073709551616)(w:World):
 Calls Tryd.prog 94 #[.int .u64 x,.int .u64 y] w fun e w'=>e=.returned (.tuple #[.int .u64 ((x*y/18446744073709551616:Nat):Int),.int .u64 ((x*y%18446744073709551616:Nat):Int)])∧w'=w:=Any.bits_Mul Tryd.lays212 x y hx hy w
end Go.Proofs
namespace Go.Proofs.YtegaapiocihcpaaDoor
open Go.RowKit
def Tabs (w:World):Prop:=Laid w∧True
theorem Tabs.to {w w':World}(h:Tabs w)(hb:Below w.heap.size w w'):Tabs w':=⟨h.1.to hb,trivial⟩
end Go.Proofs.YtegaapiocihcpaaDoor
namespace Go.Proofs.YtegaapiocihcpaaDoor
open Go.ChangeShapes Go.WideShapes Go.ChangeAt Go.RowKit
variable {H:Type} {enc:TypeId × Value→H} {P:Program}
def readT (P:Program)(t:TypeId):Bool:=P.readableRec t&&decide (t<P.types.size)
theorem stays {W W':World}(hl:laidOutB P=true)(hb:Below W.heap.size W W')(sp:Nat→Bool):∀{ts:List TypeId} {vs:List Value} {ds:List (DataW H)} {p:List MemPlace},ts.all (readT P)=true→DataW.TrodAll enc P W 0 (fun _=>true) true ts vs ds p→(∀x∈p,x.block<W.heap.size)→(∀x∈p,sp x.block=true)→DataW.TrodAll enc P W' 0 sp true ts vs ds p:=by
 intro ts;induction ts with
 |nil=>
  intro vs ds p _ h _ _;obtain⟨rfl,rfl,rfl⟩:=trodAll_nil h;exact trodAll_mk0
 |cons t ts ih=>
  intro vs ds p hr h hlt hsp;obtain⟨v,vs',d,ds',q,q',rfl,rfl,rfl,h1,h2⟩:=trodAll_cons h;rw[List.all_cons,Bool.and_eq_true] at hr;have hr1:=hr.1;unfold readT at hr1;rw[Bool.and_eq_true,decide_eq_true_iff] at hr1
  exact trodAll_cons_mk (WideElems.Trod_stays hl hr1.1 hr1.2 h1 (fun x hx=>hb.same (hlt x (List.mem_append_left _ hx))) (fun x hx=>hsp x (List.mem_append_left _ hx))) (ih hr.2 h2 (fun x hx=>hlt x (List.mem_append_right _ hx)) (fun x hx=>hsp x (List.mem_append_right _ hx)))
theorem row_close {f:Func}{s:ChangeSpec}{W W':World}{args:Array Value}{ds gs:List (DataW H)}{before:List MemPlace}{tb:TypeId}{fresh handsOn:Bool} (hl:laidOutB P=true) (ht:P.underlying tb=some .bool) (hrt:f.resultTypes=#[tb]) (hr:f.params.toList.all (readT P)=true) (hv:s.vars=[]) (hW:DataW.Whole enc P f.params.toList s.vars false W args.toList ds gs before) (hres:(s.fn H (ds++gs))={results:=[.lit (.bool true)],args:=ds}) (hb:Below W.heap.size W W'):
 s.post enc P f false fresh handsOn false W args (.bool true) W':=by
 have hlt:∀p∈before,p.block<W.heap.size:=fun p hp=>hW.lt p hp
 have hW':=hW;obtain⟨p,q,hA,hV,rfl,hz,_⟩:=hW;rw[hv] at hV;obtain⟨rfl,rfl⟩:=trodVars_none hV;rw[List.append_nil] at hlt hz hW';refine⟨ds,[],p,[],p,[],hW',?_,?_,?_,hb.frame _,fun h=>by cases h⟩
 ·rw[hrt,hres];exact trodAll_cons_mk (shut_bool ht true) trodAll_mk0
 ·rw[hres];exact stays hl hb _ hr hA hlt (fun x hx=>by simpa using hlt x hx)
 ·rw[hres,hv];rfl
theorem i64_wf {n:Int}(h:(Lit.int .i64 n).wf=true): -9223372036854775808≤n∧n≤9223372036854775807:=by
 simpa[Lit.wf,IntKind.min,IntKind.max,IntKind.signed,IntKind.bits] using h
end Go.Proofs.YtegaapiocihcpaaDoor
namespace Go.Proofs.YtegaapiocihcpaaDoor
open Go.ChangeShapes Go.WideShapes Go.ChangeAt Go.RowKit
def laidL:List (String × DataW Unit):=Rows.sealPagesRow.laid
theorem gType_w:(Tryd.prog.globals[0]?).map (·.type)=some 150:=by kernel_rfl
theorem filt_w:laidL.filter (fun x=>x.1== "rollbook/glyph.widths")=[("rollbook/glyph.widths",Lib.tabData .u8 wTab)]:=by kernel_rfl
theorem cells_u8:Tryd.prog.cellsOf 5=1:=by kernel_rfl
theorem cells_w:Tryd.prog.cellsOf 150=94:=by kernel_rfl
theorem tabs_of {W:World}(h:laidMetH Tryd.prog laidL W):Tabs W:=by
 have hw:=h.filter (fun x=>x.1== "rollbook/glyph.widths");rw[filt_w] at hw;exact⟨Lib.tabIs_of_head (rest:=[]) gW gType_w Tryd.underlying150 Tryd.underlying5 cells_u8 cells_w hw,trivial⟩
def nums:DataW Unit→Array Value
 |.agg xs=>(xs.map fun x=>match x with|.lit (.int k z)=>Value.int k z|_=>.bool false).toArray
 |_=>#[]
def lay (w:World)(b:Nat)(d:DataW Unit):World:=
 {w with heap:=w.heap.modify b fun|.cells _ t fr=>.cells (nums d) t fr|o=>o}
noncomputable def laidWorld (os:Os):World:=
 lay (World.holding Tryd.prog os ⟨#[],#[],[]⟩) 0 Rows.laid_rollbook_glyph_widths
theorem own:ownKnob Tryd.prog.godebug=none:=by kernel_rfl
theorem laidOut:laidOutB Tryd.prog=true:=by kernel_rfl
theorem cells_int:Tryd.prog.cellsOf 3=1:=by kernel_rfl
end Go.Proofs.YtegaapiocihcpaaDoor
namespace Go.Proofs.YtegaapiocihcpaaDoor
open Go.RowKit
theorem tl_len (s:ByteArray):∀n i r,s.size-i=n→(ByteArray.toList.loop s i r).length=r.length+n:=by
 intro n;induction n with
 |zero=>intro i r h;rw[ByteArray.toList.loop,if_neg (by omega)];simp
 |succ n ih=>intro i r h;rw[ByteArray.toList.loop,if_pos (by omega),ih (i+1) _ (by omega)];simp;omega
theorem tl_size (s:ByteArray):s.toList.length=s.size:=by
 unfold ByteArray.toList;rw[tl_len s s.size 0 [] (by omega)];simp
theorem key_nil {s:ByteArray}(h:s=⟨#[]⟩):s.toList=[]∧(!s.toList.isEmpty)=false:=by
 have:s.toList=[]:=List.eq_nil_of_length_eq_zero (by rw[tl_size,h];rfl);rw[this];simp
theorem key_some {s:ByteArray}(h:s≠⟨#[]⟩):¬s.toList=[]∧(!s.toList.isEmpty)=true:=by
 have:¬s.toList=[]:=by
  intro e;apply h;have h2:=tl_size s;rw[e] at h2;apply ByteArray.ext;exact Array.eq_empty_of_size_eq_zero h2.symm
 exact⟨this,by cases hl:s.toList with|nil=>exact absurd hl this|cons a r=>rfl⟩
set_option maxRecDepth 100000 in
theorem gcheck_any (A B:Option Addr)(c d:Nat)(a b:List (List Word))(w:World)(hT:Laid w)(ha:Sl w (fun b=>b<w.heap.size) A c a)(hb:Sl w (fun b=>b<w.heap.size) B d b)(hla:a.length≤1048576)(hlb:b.length≤1048576):
 Calls Tryd.prog 64 #[.agg #[.slice A a.length c,.slice B b.length d]] w fun e w'=>e=.returned (.int .i64 (Qdn a b))∧Below w.heap.size w w':=by
 have hb0:=((Below.refl w.heap.size w).alloc nL (.cells #[.slice A a.length c,.slice B b.length d] 38));have hb1:=hb0.alloc (by simp) (.cells #[.slice A a.length c,.slice B b.length d] 36);have Hb1:=Lh hb1;have Ha:=Lh (ha.to hb1);have Hb:=Lh (hb.to hb1);have HT:=Lh hT;have q0:((w.alloc (.cells #[.slice A a.length c,.slice B b.length d] 38)).alloc (.cells #[.slice A a.length c,.slice B b.length d] 36)).cell? ⟨w.heap.size+1,0,none⟩=some (.slice A a.length c):=by go_simp
 have q1:((w.alloc (.cells #[.slice A a.length c,.slice B b.length d] 38)).alloc (.cells #[.slice A a.length c,.slice B b.length d] 36)).cell? ⟨w.heap.size+1,1,none⟩=some (.slice B b.length d):=by go_simp
 have Q0:=Lh q0;have Q1:=Lh q1;have TB0:=Lh ((Below.heap_alloc (w.alloc (.cells #[.slice A a.length c,.slice B b.length d] 38)) (.cells #[.slice A a.length c,.slice B b.length d] 36) w.heap.size (by simp)).trans (heap_alloc_new w (.cells #[.slice A a.length c,.slice B b.length d] 38)));have hz0:w.heap.size<((w.alloc (.cells #[.slice A a.length c,.slice B b.length d] 38)).alloc (.cells #[.slice A a.length c,.slice B b.length d] 36)).heap.size:=by simp;omega
 clear ha hb hb0 hb1 q0 q1 hT;have HC:=Lh (show Qdn a b=if 100<a.length∨100<b.length∨QaH Qdu (a++b)=true then 2 else if QaH QbX (a++b)=true then 1 else endP b.length (Qbd a.length b.length 0 0 (a++b)) from rfl);generalize Qdn a b=res at*;go_enter Tryd.func64,Tryd.ntmps64;go_wp2_with fail;refine(concat_any _ A B c d a b _ Q0.out Q1.out Ha.out Hb.out hla hlb).mono ?_;rintro e w1 ⟨v,rfl,hown,hbb⟩;obtain⟨A1,c1,rfl,hs⟩:=hown.sl;have hll:(a++b).length≤2097152:=by simp;omega
 generalize a++b=l at*;have Hs:=Lh hs;have Hbb:=Lh (Hb1.out.trans (hbb.mono Hb1.out.size));have TB:=Lh ((hbb.block _ hz0).trans TB0.out);have hz1:w.heap.size<w1.heap.size:=Nat.lt_of_lt_of_le hz0 hbb.size;obtain⟨t0,t1⟩:=QcU TB.out;clear hs hown hbb Ha Hb Q0 Q1 Hb1 TB0 hz0;by_cases h1:100<a.length
 ·have E:=Lh (show res=2 by rw[HC.out,if_pos (.inl h1)]);have h1':(100:Int)<(a.length:Int):=(by omega);go_wp2_with fail;go_ret;exact⟨Qae E.out.symm,Hbb.out⟩
 ·have h1':¬(100:Int)<(a.length:Int):=by omega
  by_cases h2:100<b.length
  ·have E:=Lh (show res=2 by rw[HC.out,if_pos (.inr (.inl h2))]);have h2':(100:Int)<(b.length:Int):=(by omega);go_wp2_with fail;go_ret;exact⟨Qae E.out.symm,Hbb.out⟩
  ·have h2':¬(100:Int)<(b.length:Int):=by omega
   go_wp2_with fail;refine(QbC A1 c1 _ l 76 Qdu w1 Hs.out rfl (fun _ _=>by kernel_rfl) long_any).mono ?_;rintro e w2 ⟨rfl,rfl⟩;cases h3:QaH Qdu l
   ·have h3':=Lh h3;clear h3;go_wp2_with fail;refine(QbC A1 c1 _ l 77 QbX w1 Hs.out rfl (fun _ _=>by kernel_rfl) empty_any).mono ?_;rintro e w2 ⟨rfl,rfl⟩;cases h4:QaH QbX l
    ·have E:=Lh (show res=endP b.length (Qbd a.length b.length 0 0 l) by rw[HC.out,if_neg (by rw[h3'.out];simp;omega),if_neg (by rw[h4];simp)]);clear h4 h3' HC;go_wp2_with fail;have hnn:b.length≤100:=(by omega);clear h1 h2 t0 t1;go_loopw [4,5,6,8,33] (fun n _ _ _ i wr=>∃k:Nat,k≤l.length∧i=.int .i64 k∧(∃q:Nat,q≤b.length∧n=.int .i64 (q:Int)∧Hid (Qbd a.length b.length 0 0 l=Qbd a.length b.length k q (l.drop k)))∧Below w1.heap.size w1 wr) (fun _ _ _ _ i _=>l.length-(intOf i).toNat);(case atStart=>exact⟨0,Nat.zero_le _,rfl,⟨0,Nat.zero_le _,rfl,rfl⟩,Below.refl _ _⟩);case round=>
      obtain⟨k,hk,rfl,⟨q,hq,rfl,hsc⟩,hb2⟩:=hrel;have Hb2:=Lh hb2;clear hb2;by_cases hlt:k<l.length
      ·obtain⟨bb,o,Ap,cp,rfl,_,hbl,hc,hp⟩:=Qbw (Hs.out.to Hb2.out) hlt;have hkl:(k:Int)<(l.length:Int):=(by omega);have hk0:(0:Int)≤(k:Int):=(by omega);have HPo:=Lh (fun n' h=>scanP_ok (np:=a.length) (nn:=b.length) (notes:=(q:Int)) (n':=n') hlt h);have HPe:=Lh (fun n' e h he=>scanP_err (np:=a.length) (nn:=b.length) (notes:=(q:Int)) (n':=n') (e:=e) hlt h he);have h2:l[k].length≤9223372036854775807:=(by have:=hp.1;have:=hp.2.1;unfold maxLen at this;omega);generalize l[k]=p at*;have Hp:=Lh hp;clear hp;go_wp2_with fail;obtain⟨wo,rfl⟩:∃wo:World,wo=wr:=⟨_,rfl⟩;go_loopw [4,8,40] (fun n _ i wr=>∃j:Nat,j≤p.length∧i=.int .i64 j∧(∃r:Nat,r≤b.length∧n=.int .i64 (r:Int)∧Hid (Qav a.length b.length k q p=Qav a.length b.length k r (p.drop j)))∧Below wo.heap.size wo wr) (fun _ _ i _=>p.length-(intOf i).toNat);(case atStart=>exact⟨0,Nat.zero_le _,rfl,⟨q,hq,rfl,rfl⟩,Below.refl _ _⟩);case round=>
        obtain⟨j,hj,rfl,⟨r,hr,rfl,hsw⟩,hb3⟩:=hrel;have Hb3:=Lh hb3;have hz3:=hb3.size;clear hb3;by_cases hjl:j<p.length
        ·obtain⟨b3,o3,rfl,_,hbl3,hok,d0,d1,d2,d3⟩:=Qdw (Hp.out.to Hb3.out) hjl;have hj1:(j:Int)<(p.length:Int):=(by omega);have hj0:(0:Int)≤(j:Int):=(by omega);have HWo:=Lh (fun n' h=>scanW_ok (np:=a.length) (nn:=b.length) (i:=k) (notes:=(r:Int)) (n':=n') hjl h);have HWe:=Lh (fun n' e h he=>scanW_err (np:=a.length) (nn:=b.length) (i:=k) (notes:=(r:Int)) (n':=n') (e:=e) hjl h he);generalize p[j]=x at*;have hx2:=hok.2.2.1;have hx3:=hok.2.2.2;have Hb4:=Lh (Hb3.out.alloc hz3 (.cells #[.string x.s,.string x.key,.int .i64 x.t,.int .i64 x.n] 117));have Hb24:=Lh (Hb2.out.trans (Hb4.out.mono Hb2.out.size));have HL4:=Lh ((HT.out.to Hbb.out).to Hb24.out);have TB4:=Lh ((Hb24.out.block _ hz1).trans TB.out);go_wp2_with fail;refine(gvalid_any x.s _ HL4.out).mono ?_;rintro e w' ⟨rfl,rfl⟩;have HErr:=Lh (fun n' e h he=>(show res=e by rw[E.out,hsc.out,HPe.out n' e (by rw[hsw.out];exact HWe.out n' e h he) he];unfold endP;rw[if_pos he]));cases hvs:Qa6 x.s
         ·have E2:=Lh (HErr.out _ _ (step_bad (bad_s hvs)) (by decide));clear hvs;go_wp2_with fail;go_ret;exact⟨Qae E2.out.symm,Hbb.out.trans (Hb24.out.mono Hbb.out.size)⟩
         ·have Hvs:=Lh hvs;clear hvs;by_cases hke:x.key=⟨#[]⟩
          ·obtain⟨k1,k2⟩:=key_nil hke;have Hke:=Lh hke;clear hke;have hgood:=Lh (good_nokey Hvs.out Hke.out);by_cases ht:x.t=0∨x.t=1
           ·have ht':=Lh ht;obtain⟨t0,t1⟩:=QcU TB4.out;by_cases hn0:x.n=0
            ·have hB:(x.n != 0)=false:=by rw[hn0];rfl
             have hst:=Lh (QbO (np:=a.length) (nn:=b.length) (i:=k) (notes:=(r:Int)) hgood.out ht hn0);clear hn0;rcases ht with ht0|ht0
             ·have hB0:(x.t != 0)=false:=by rw[ht0];rfl
              clear ht0;have E2:=Lh (show Qav a.length b.length k q p=Qav a.length b.length k (r:Int) (p.drop (j+1)) by rw[hsw.out];exact HWo.out _ (hst.out));clear HErr;go_wp2_with fail;go_roundw;(case rel=>exact⟨j+1,by omega,by go_num,⟨r,by omega,by go_num,E2.out⟩,Hb4.out⟩);case measure=>simp[intOf];omega
             ·have hB0:(x.t != 1)=false:=by rw[ht0];rfl
              have hB1:(x.t != 0)=true:=(by rw[ht0];rfl);clear ht0;have E2:=Lh (show Qav a.length b.length k q p=Qav a.length b.length k (r:Int) (p.drop (j+1)) by rw[hsw.out];exact HWo.out _ (hst.out));clear HErr;go_wp2_with fail;go_roundw;(case rel=>exact⟨j+1,by omega,by go_num,⟨r,by omega,by go_num,E2.out⟩,Hb4.out⟩);case measure=>simp[intOf];omega
            ·have hB:(x.n != 0)=true:=bne_iff_ne.2 hn0;by_cases hh:a.length≤k∨x.n≠(r:Int)+1∨(b.length:Int)<(r:Int)+1
             ·have hst:=Lh (step_far (np:=a.length) (nn:=b.length) (i:=k) (notes:=(r:Int)) hgood.out ht hn0 hh);clear hn0;rcases ht with ht0|ht0
              ·have hB0:(x.t != 0)=false:=by rw[ht0];rfl
               clear ht0;have E2:=Lh (HErr.out _ _ hst.out (by decide));by_cases hk1:(a.length:Int)≤(k:Int)
               ·clear hh;go_wp2_with fail;go_ret;exact⟨Qae E2.out.symm,Hbb.out.trans (Hb24.out.mono Hbb.out.size)⟩
               ·by_cases hk2:x.n=(r:Int)+1
                ·have hB2:(x.n != (r:Int)+1)=false:=by rw[hk2];simp
                 have hk3:(b.length:Int)<(r:Int)+1:=(by omega);clear hh hk2;go_wp2_with fail;go_ret;exact⟨Qae E2.out.symm,Hbb.out.trans (Hb24.out.mono Hbb.out.size)⟩
                ·have hB2:(x.n != (r:Int)+1)=true:=bne_iff_ne.2 hk2;clear hh hk2;go_wp2_with fail;go_ret;exact⟨Qae E2.out.symm,Hbb.out.trans (Hb24.out.mono Hbb.out.size)⟩
              ·have hB0:(x.t != 1)=false:=by rw[ht0];rfl
               have hB1:(x.t != 0)=true:=(by rw[ht0];rfl);clear ht0;have E2:=Lh (HErr.out _ _ hst.out (by decide));by_cases hk1:(a.length:Int)≤(k:Int)
               ·clear hh;go_wp2_with fail;go_ret;exact⟨Qae E2.out.symm,Hbb.out.trans (Hb24.out.mono Hbb.out.size)⟩
               ·by_cases hk2:x.n=(r:Int)+1
                ·have hB2:(x.n != (r:Int)+1)=false:=by rw[hk2];simp
                 have hk3:(b.length:Int)<(r:Int)+1:=(by omega);clear hh hk2;go_wp2_with fail;go_ret;exact⟨Qae E2.out.symm,Hbb.out.trans (Hb24.out.mono Hbb.out.size)⟩
                ·have hB2:(x.n != (r:Int)+1)=true:=bne_iff_ne.2 hk2;clear hh hk2;go_wp2_with fail;go_ret;exact⟨Qae E2.out.symm,Hbb.out.trans (Hb24.out.mono Hbb.out.size)⟩
             ·have hst:=Lh (Qdi (np:=a.length) (nn:=b.length) (i:=k) (notes:=(r:Int)) hgood.out ht hn0 hh);have hk1:¬(a.length:Int)≤(k:Int):=(by omega);have hB2:(x.n != (r:Int)+1)=false:=(by rw[show x.n=(r:Int)+1 by omega];simp);have hk3:¬(b.length:Int)<(r:Int)+1:=(by omega);clear hn0 hh;rcases ht with ht0|ht0
              ·have hB0:(x.t != 0)=false:=by rw[ht0];rfl
               clear ht0;have E2:=Lh (show Qav a.length b.length k q p=Qav a.length b.length k ((r+1:Nat):Int) (p.drop (j+1)) by rw[hsw.out];exact HWo.out _ (hst.out));clear HErr;go_wp2_with fail;go_roundw;(case rel=>exact⟨j+1,by omega,by go_num,⟨r+1,by omega,by go_num,E2.out⟩,Hb4.out⟩);case measure=>simp[intOf];omega
              ·have hB0:(x.t != 1)=false:=by rw[ht0];rfl
               have hB1:(x.t != 0)=true:=(by rw[ht0];rfl);clear ht0;have E2:=Lh (show Qav a.length b.length k q p=Qav a.length b.length k ((r+1:Nat):Int) (p.drop (j+1)) by rw[hsw.out];exact HWo.out _ (hst.out));clear HErr;go_wp2_with fail;go_roundw;(case rel=>exact⟨j+1,by omega,by go_num,⟨r+1,by omega,by go_num,E2.out⟩,Hb4.out⟩);case measure=>simp[intOf];omega
           ·have hst:=Lh (step_tab (np:=a.length) (nn:=b.length) (i:=k) (notes:=(r:Int)) hgood.out (by omega));have hB0:(x.t != 0)=true:=bne_iff_ne.2 (by omega);have hB1:(x.t != 1)=true:=bne_iff_ne.2 (by omega);clear ht;have E2:=Lh (HErr.out _ _ (hst.out) (by decide));go_wp2_with fail;go_ret;exact⟨Qae E2.out.symm,Hbb.out.trans (Hb24.out.mono Hbb.out.size)⟩
          ·obtain⟨k1,k2⟩:=key_some hke;have Hke:=Lh hke;clear hke;go_wp2_with fail;refine(gvalid_any x.key _ HL4.out).mono ?_;rintro e w' ⟨rfl,rfl⟩;cases hvk:Qa6 x.key
           ·have hst:=Lh (step_bad (np:=a.length) (nn:=b.length) (i:=k) (notes:=(r:Int)) (bad_key Hke.out hvk));clear hvk;have E2:=Lh (HErr.out _ _ (hst.out) (by decide));go_wp2_with fail;go_ret;exact⟨Qae E2.out.symm,Hbb.out.trans (Hb24.out.mono Hbb.out.size)⟩
           ·have Hvk:=Lh hvk;clear hvk;have hgood:=Lh (good_key Hvs.out Hvk.out);by_cases ht:x.t=0∨x.t=1
            ·have ht':=Lh ht;obtain⟨t0,t1⟩:=QcU TB4.out;by_cases hn0:x.n=0
             ·have hB:(x.n != 0)=false:=by rw[hn0];rfl
              have hst:=Lh (QbO (np:=a.length) (nn:=b.length) (i:=k) (notes:=(r:Int)) hgood.out ht hn0);clear hn0;rcases ht with ht0|ht0
              ·have hB0:(x.t != 0)=false:=by rw[ht0];rfl
               clear ht0;have E2:=Lh (show Qav a.length b.length k q p=Qav a.length b.length k (r:Int) (p.drop (j+1)) by rw[hsw.out];exact HWo.out _ (hst.out));clear HErr;go_wp2_with fail;go_roundw;(case rel=>exact⟨j+1,by omega,by go_num,⟨r,by omega,by go_num,E2.out⟩,Hb4.out⟩);case measure=>simp[intOf];omega
              ·have hB0:(x.t != 1)=false:=by rw[ht0];rfl
               have hB1:(x.t != 0)=true:=(by rw[ht0];rfl);clear ht0;have E2:=Lh (show Qav a.length b.length k q p=Qav a.length b.length k (r:Int) (p.drop (j+1)) by rw[hsw.out];exact HWo.out _ (hst.out));clear HErr;go_wp2_with fail;go_roundw;(case rel=>exact⟨j+1,by omega,by go_num,⟨r,by omega,by go_num,E2.out⟩,Hb4.out⟩);case measure=>simp[intOf];omega
             ·have hB:(x.n != 0)=true:=bne_iff_ne.2 hn0;by_cases hh:a.length≤k∨x.n≠(r:Int)+1∨(b.length:Int)<(r:Int)+1
              ·have hst:=Lh (step_far (np:=a.length) (nn:=b.length) (i:=k) (notes:=(r:Int)) hgood.out ht hn0 hh);clear hn0;rcases ht with ht0|ht0
               ·have hB0:(x.t != 0)=false:=by rw[ht0];rfl
                clear ht0;have E2:=Lh (HErr.out _ _ hst.out (by decide));by_cases hk1:(a.length:Int)≤(k:Int)
                ·clear hh;go_wp2_with fail;go_ret;exact⟨Qae E2.out.symm,Hbb.out.trans (Hb24.out.mono Hbb.out.size)⟩
                ·by_cases hk2:x.n=(r:Int)+1
                 ·have hB2:(x.n != (r:Int)+1)=false:=by rw[hk2];simp
                  have hk3:(b.length:Int)<(r:Int)+1:=(by omega);clear hh hk2;go_wp2_with fail;go_ret;exact⟨Qae E2.out.symm,Hbb.out.trans (Hb24.out.mono Hbb.out.size)⟩
                 ·have hB2:(x.n != (r:Int)+1)=true:=bne_iff_ne.2 hk2;clear hh hk2;go_wp2_with fail;go_ret;exact⟨Qae E2.out.symm,Hbb.out.trans (Hb24.out.mono Hbb.out.size)⟩
               ·have hB0:(x.t != 1)=false:=by rw[ht0];rfl
                have hB1:(x.t != 0)=true:=(by rw[ht0];rfl);clear ht0;have E2:=Lh (HErr.out _ _ hst.out (by decide));by_cases hk1:(a.length:Int)≤(k:Int)
                ·clear hh;go_wp2_with fail;go_ret;exact⟨Qae E2.out.symm,Hbb.out.trans (Hb24.out.mono Hbb.out.size)⟩
                ·by_cases hk2:x.n=(r:Int)+1
                 ·have hB2:(x.n != (r:Int)+1)=false:=by rw[hk2];simp
                  have hk3:(b.length:Int)<(r:Int)+1:=(by omega);clear hh hk2;go_wp2_with fail;go_ret;exact⟨Qae E2.out.symm,Hbb.out.trans (Hb24.out.mono Hbb.out.size)⟩
                 ·have hB2:(x.n != (r:Int)+1)=true:=bne_iff_ne.2 hk2;clear hh hk2;go_wp2_with fail;go_ret;exact⟨Qae E2.out.symm,Hbb.out.trans (Hb24.out.mono Hbb.out.size)⟩
              ·have hst:=Lh (Qdi (np:=a.length) (nn:=b.length) (i:=k) (notes:=(r:Int)) hgood.out ht hn0 hh);have hk1:¬(a.length:Int)≤(k:Int):=(by omega);have hB2:(x.n != (r:Int)+1)=false:=(by rw[show x.n=(r:Int)+1 by omega];simp);have hk3:¬(b.length:Int)<(r:Int)+1:=(by omega);clear hn0 hh;rcases ht with ht0|ht0
               ·have hB0:(x.t != 0)=false:=by rw[ht0];rfl
                clear ht0;have E2:=Lh (show Qav a.length b.length k q p=Qav a.length b.length k ((r+1:Nat):Int) (p.drop (j+1)) by rw[hsw.out];exact HWo.out _ (hst.out));clear HErr;go_wp2_with fail;go_roundw;(case rel=>exact⟨j+1,by omega,by go_num,⟨r+1,by omega,by go_num,E2.out⟩,Hb4.out⟩);case measure=>simp[intOf];omega
               ·have hB0:(x.t != 1)=false:=by rw[ht0];rfl
                have hB1:(x.t != 0)=true:=(by rw[ht0];rfl);clear ht0;have E2:=Lh (show Qav a.length b.length k q p=Qav a.length b.length k ((r+1:Nat):Int) (p.drop (j+1)) by rw[hsw.out];exact HWo.out _ (hst.out));clear HErr;go_wp2_with fail;go_roundw;(case rel=>exact⟨j+1,by omega,by go_num,⟨r+1,by omega,by go_num,E2.out⟩,Hb4.out⟩);case measure=>simp[intOf];omega
            ·have hst:=Lh (step_tab (np:=a.length) (nn:=b.length) (i:=k) (notes:=(r:Int)) hgood.out (by omega));have hB0:(x.t != 0)=true:=bne_iff_ne.2 (by omega);have hB1:(x.t != 1)=true:=bne_iff_ne.2 (by omega);clear ht;have E2:=Lh (HErr.out _ _ (hst.out) (by decide));go_wp2_with fail;go_ret;exact⟨Qae E2.out.symm,Hbb.out.trans (Hb24.out.mono Hbb.out.size)⟩
        ·obtain rfl:j=p.length:=by omega
         have hsw':Qav a.length b.length k q p=(0,(r:Int)):=(by rw[hsw.out,List.drop_of_length_le nL];rfl);have E2:=Lh (hsc.out.trans (HPo.out _ hsw'));clear hsw';go_wp2_with fail;go_roundw;(case rel=>exact⟨k+1,by omega,by go_num,⟨r,by omega,rfl,E2.out⟩,Hb2.out.trans (Hb3.out.mono Hb2.out.size)⟩);case measure=>simp[intOf];omega
      ·have hsc':=Lh (show Qbd a.length b.length 0 0 l=(0,(q:Int)) by rw[hsc.out,List.drop_of_length_le (by omega)];rfl);obtain⟨t0,t1⟩:=QcU ((Hb2.out.block _ hz1).trans TB.out);by_cases hqn:q=b.length
       ·have E2:=Lh (show res=0 by rw[E.out,hsc'.out,hqn];unfold endP;simp);have hB:((q:Int) != (b.length:Int))=false:=(by rw[hqn];simp);clear hqn;go_wp2_with fail;go_ret;exact⟨Qae E2.out.symm,Hbb.out.trans (Hb2.out.mono Hbb.out.size)⟩
       ·have E2:=Lh (show res=3 by rw[E.out,hsc'.out];unfold endP;rw[if_neg (by simp),if_pos (by simp;omega)]);have hB:((q:Int) != (b.length:Int))=true:=(by rw[bne_iff_ne];omega);clear hqn;go_wp2_with fail;go_ret;exact⟨Qae E2.out.symm,Hbb.out.trans (Hb2.out.mono Hbb.out.size)⟩
    ·have E:=Lh (show res=1 by rw[HC.out,if_neg (by rw[h3'.out];simp;omega),if_pos h4]);clear h4;go_wp2_with fail;go_ret;exact⟨Qae E.out.symm,Hbb.out⟩
   ·have E:=Lh (show res=2 by rw[HC.out,if_pos (.inr (.inr h3))]);clear h3;go_wp2_with fail;go_ret;exact⟨Qae E.out.symm,Hbb.out⟩
def aro (n m:Int):Int:=(if n<0 then -(n+1) else n)%m
theorem aro_lt (n m:Int)(h:1≤m):0≤aro n m∧aro n m<m:=⟨Int.emod_nonneg _ (by omega),Int.emod_lt_of_pos _ (by omega)⟩
theorem around_any (n m:Int)(w:World)(hn:I64 n)(hm:1≤m)(hm2:m≤9223372036854775807):
 Calls Tryd.prog 17 #[.int .i64 n,.int .i64 m] w fun e w'=>e=.returned (.int .i64 (aro n m))∧w=w':=by
 obtain⟨h0,h1⟩:=hn;go_enter Tryd.func17,Tryd.ntmps17;by_cases h:n<0
 ·have e:aro n m=(-(n+1))%m:=by unfold aro;rw[if_pos h]
  have E:=Lh e;clear e;have hp:0≤ -(n+1):=(by omega);go_wp2;go_ret;refine⟨Qae ?_,rfl⟩;rw[E.out];rw[←Int.neg_tmod,Int.tmod_eq_emod_of_nonneg hp]
 ·have e:aro n m=n%m:=by unfold aro;rw[if_neg h]
  have E:=Lh e;clear e;go_wp2;go_ret;exact⟨Qae (by rw[E.out]),rfl⟩
structure Seal where
 e:Int
 v:Int
 f:Int
 u:Int
 g:Int
 deriving DecidableEq
def Seal.ok (s:Seal):Prop:=I64 s.e∧I64 s.v∧I64 s.f∧I64 s.u∧I64 s.g
def Seal.cells (s:Seal):List Value:=[.int .i64 s.e,.int .i64 s.v,.int .i64 s.f,.int .i64 s.u,.int .i64 s.g]
instance:Rep Seal where
 size:=5
 R _ _ cs s:=cs=s.cells∧s.ok
 len:=by rintro w S cs s ⟨rfl,_⟩;rfl
 one:=by rintro w S cs s ⟨rfl,_⟩ u hu;simp[Seal.cells] at hu;rcases hu with rfl|rfl|rfl|rfl|rfl<;>rfl
 keep:=by rintro w w' S cs s h _;exact h
 mono:=by rintro w S S' cs s h _;exact h
structure Span where
 f:Int
 u:Int
 deriving DecidableEq
def Span.ok (s:Span):Prop:=I64 s.f∧I64 s.u
def Span.cells (s:Span):List Value:=[.int .i64 s.f,.int .i64 s.u]
instance:Rep Span where
 size:=2
 R _ _ cs s:=cs=s.cells∧s.ok
 len:=by rintro w S cs s ⟨rfl,_⟩;rfl
 one:=by rintro w S cs s ⟨rfl,_⟩ u hu;simp[Span.cells] at hu;rcases hu with rfl|rfl<;>rfl
 keep:=by rintro w w' S cs s h _;exact h
 mono:=by rintro w S S' cs s h _;exact h
theorem Qca {w:World}{S:Nat→Prop}{A:Option Addr}{c:Nat}{l:List Seal}(h:Sl w S A c l){k:Nat}(hk:k<l.length):
 ∃b o,A=some ⟨b,o,none⟩∧S b∧b<w.heap.size∧l[k].ok∧w.cell? ⟨b,o+k*5,none⟩=some (.int .i64 l[k].e)∧w.cell? ⟨b,o+k*5+1,none⟩=some (.int .i64 l[k].v)∧ w.cell? ⟨b,o+k*5+2,none⟩=some (.int .i64 l[k].f)∧w.cell? ⟨b,o+k*5+3,none⟩=some (.int .i64 l[k].u)∧w.cell? ⟨b,o+k*5+4,none⟩=some (.int .i64 l[k].g):=by
 obtain⟨b,o,es,rfl,hb,hlt,⟨rfl,hok⟩,hc⟩:=h.at_ hk;exact⟨b,o,rfl,hb,hlt,hok,hc 0 _ rfl,hc 1 _ rfl,hc 2 _ rfl,hc 3 _ rfl,hc 4 _ rfl⟩
theorem span_at {w:World}{S:Nat→Prop}{A:Option Addr}{c:Nat}{l:List Span}(h:Sl w S A c l){k:Nat}(hk:k<l.length):
 ∃b o,A=some ⟨b,o,none⟩∧S b∧b<w.heap.size∧l[k].ok∧w.cell? ⟨b,o+k*2,none⟩=some (.int .i64 l[k].f)∧w.cell? ⟨b,o+k*2+1,none⟩=some (.int .i64 l[k].u):=by
 obtain⟨b,o,es,rfl,hb,hlt,⟨rfl,hok⟩,hc⟩:=h.at_ hk;exact⟨b,o,rfl,hb,hlt,hok,hc 0 _ rfl,hc 1 _ rfl⟩
def sidx (s:Seal):List Seal→Nat→Int
 |[],_=> -1
 |x::r,k=>if x=s then k else sidx s r (k+1)
theorem sidx_miss (s:Seal)(l:List Seal)(k:Nat)(hk:k<l.length)(h:l[k]≠s):sidx s (l.drop k) k=sidx s (l.drop (k+1)) (k+1):=by
 rw[List.drop_eq_getElem_cons hk,sidx,if_neg h]
theorem sidx_hit (s:Seal)(l:List Seal)(k:Nat)(hk:k<l.length)(h:l[k]=s):sidx s (l.drop k) k=k:=by
 rw[List.drop_eq_getElem_cons hk,sidx,if_pos h]
def vld (s:Seal):Bool:=decide (0≤s.e∧s.e<65536∧0≤s.v∧s.v≤2147483647∧0≤s.f∧s.f<s.u∧s.u≤1048576∧0≤s.g∧s.g<16)
theorem vld_t {s:Seal}(h:0≤s.e∧s.e<65536∧0≤s.v∧s.v≤2147483647∧0≤s.f∧s.f<s.u∧s.u≤1048576∧0≤s.g∧s.g<16):vld s=true:=decide_eq_true h
theorem vld_f {s:Seal}(h:¬(0≤s.e∧s.e<65536∧0≤s.v∧s.v≤2147483647∧0≤s.f∧s.f<s.u∧s.u≤1048576∧0≤s.g∧s.g<16)):vld s=false:=decide_eq_false h
def Qba (n:Int):Seal:=⟨n%3,n/3%3,n/16%24,n/16%24+1+n/384%10,n/3840%4⟩
def Qbc (out:List Seal)(x:Int):List Seal:=if sidx (Qba (aro x 10000000)) out 0<0 then out++[Qba (aro x 10000000)] else out
def Qbx (l:List Int):List Seal:=(l.take 8).foldl Qbc []
theorem mkSeal_ok (n:Int):(Qba n).ok:=by
 simp only[Seal.ok,Qba,I64];omega
def Qaz (l:List Int)(k:Nat):List Seal:=(l.take k).foldl Qbc []
theorem QcL (l:List Int)(k:Nat)(h:k<l.length):Qaz l (k+1)=Qbc (Qaz l k) l[k]:=by
 unfold Qaz;rw[qT h,List.foldl_append];rfl
theorem seals_at (l:List Int)(k:Nat)(h:k≤8)(h2:k=8∨l.length≤k):Qbx l=Qaz l k:=by
 unfold Qbx Qaz;rcases h2 with rfl|h2
 ·rfl
 ·rw[List.take_of_length_le (by omega),List.take_of_length_le h2]
theorem addSeal_le (out:List Seal)(x:Int):(Qbc out x).length≤out.length+1:=by
 unfold Qbc;split<;>simp
theorem sealsTo_le (l:List Int)(k:Nat):(Qaz l k).length≤k:=by
 induction k with
 |zero=>simp[Qaz]
 |succ k ih=>
  by_cases h:k<l.length
  ·rw[QcL l k h];have:=addSeal_le (Qaz l k) l[k];omega
  ·have e:Qaz l (k+1)=Qaz l k:=by unfold Qaz;rw[List.take_of_length_le (by omega),List.take_of_length_le (by omega)]
   rw[e];omega
def chkTo (pre:List Seal):List Seal→Int
 |[]=>0
 |x::r=>if vld x=false then 5 else if x∈pre then 4 else chkTo (pre++[x]) r
def schk (l:List Seal):Int:=if 1000<l.length then 2 else chkTo [] l
theorem chkTo_at (l:List Seal)(k:Nat)(h:k<l.length):chkTo (l.take k) (l.drop k)=if vld l[k]=false then 5 else if l[k]∈l.take k then 4 else chkTo (l.take (k+1)) (l.drop (k+1)):=by
 rw[List.drop_eq_getElem_cons h,chkTo,qT h]
theorem sidx_lo (s:Seal)(l:List Seal)(k:Nat): -1≤sidx s l k∧(0≤sidx s l k↔s∈l):=by
 induction l generalizing k with
 |nil=>simp[sidx]
 |cons x r ih=>
  unfold sidx;by_cases h:x=s
  ·rw[if_pos h];subst h;refine⟨by omega,?_⟩;simp
  ·rw[if_neg h];obtain⟨h1,h2⟩:=ih (k+1);refine⟨h1,h2.trans ?_⟩;simp[Ne.symm h]
theorem sidx_mem (s:Seal)(l:List Seal):0≤sidx s l 0↔s∈l:=(sidx_lo s l 0).2
def Qdo (l:List Seal)(s:Seal):List Seal × Int:=if vld s=false then([],5) else if s∈l then([],4) else if 1000≤l.length then([],2) else(l++[s],0)
def gOr (a:Nat)(s:Seal):Nat:=a ||| 2^s.g.toNat
def gset (l:List Seal):Nat:=l.foldl gOr 0
theorem gOr_lt (a:Nat)(s:Seal)(ha:a<65536)(hg:s.g<16):gOr a s<65536:=by
 have h2:2^s.g.toNat<2^16:=Nat.pow_lt_pow_right (by omega) (by omega);exact Nat.or_lt_two_pow (n:=16) ha h2
theorem gset_lt (l:List Seal)(h:∀s∈l,s.g<16):gset l<65536:=by
 unfold gset;suffices H:∀a,a<65536→l.foldl gOr a<65536 from H 0 (by omega);induction l with
 |nil=>intro a ha;exact ha
 |cons x r ih=>intro a ha;exact ih (fun s hs=>h s (List.mem_cons_of_mem _ hs)) _ (gOr_lt a x ha (h x List.mem_cons_self))
theorem gset_succ (l:List Seal)(k:Nat)(h:k<l.length):gset (l.take (k+1))=gOr (gset (l.take k)) l[k]:=by
 unfold gset;rw[qT h,List.foldl_append];rfl
theorem eql_seal (a b:Seal)(w:World):(binOp .eql 59 (.agg #[.int .i64 a.e,.int .i64 a.v,.int .i64 a.f,.int .i64 a.u,.int .i64 a.g]) (.agg #[.int .i64 b.e,.int .i64 b.v,.int .i64 b.f,.int .i64 b.u,.int .i64 b.g])).run Tryd.prog w=.ok (.bool (decide (a=b))) w:=by
 obtain⟨a1,a2,a3,a4,a5⟩:=a;obtain⟨b1,b2,b3,b4,b5⟩:=b;simp only[Seal.mk.injEq];go_simp;(repeat' split);all_goals simp[*]
theorem QaS {w:World}{B:Nat}{s:Seal}{t:TypeId}{fr:Nat × Nat}(hB:w.heap[B]? =some (.cells s.cells.toArray t fr)):
 w.cell? ⟨B,0,none⟩=some (.int .i64 s.e)∧w.cell? ⟨B,1,none⟩=some (.int .i64 s.v)∧w.cell? ⟨B,2,none⟩=some (.int .i64 s.f)∧w.cell? ⟨B,3,none⟩=some (.int .i64 s.u)∧w.cell? ⟨B,4,none⟩=some (.int .i64 s.g):=
 ⟨cell_of_row w _ 0 _ _ _ hB,cell_of_row w _ 1 _ _ _ hB,cell_of_row w _ 2 _ _ _ hB,cell_of_row w _ 3 _ _ _ hB,cell_of_row w _ 4 _ _ _ hB⟩
theorem sindex0_any (A:Option Addr)(c:Nat)(l:List Seal)(s:Seal)(w:World)(hl:Sl w (fun b=>b<w.heap.size) A c l)(_hs:s.ok):
 Calls Tryd.prog 18 #[.slice A l.length c,.agg s.cells.toArray] w fun e w'=>e=.returned (.int .i64 (sidx s l 0))∧Below w.heap.size w w':=by
 have hlen:l.length≤9223372036854775807:=by have:=hl.1;have:=hl.2.1;unfold maxLen at this;omega
 unfold Seal.cells;go_enter Tryd.func18,Tryd.ntmps18;go_wp2
 go_loopw [5] (fun i wr=>∃k:Nat,k≤l.length∧i=.int .i64 k∧Hid (sidx s l 0=sidx s (l.drop k) k)∧Below w.heap.size w wr∧wr.heap[w.heap.size]? =some (.cells s.cells.toArray 59 (0,0))) (fun i _=>l.length-(intOf i).toNat)
 (case atStart=>exact⟨0,Nat.zero_le _,rfl,rfl,bR.alloc nL _,heap_alloc_new w _⟩);case round=>
  obtain⟨k,hk,rfl,hi,hb,hB⟩:=hrel;by_cases hlt:k<l.length
  ·obtain⟨b,o,rfl,hbS,hbl,hok,c0,c1,c2,c3,c4⟩:=Qca (hl.keep (Kept.all hb) hb.size) hlt;have hkl:(k:Int)<(l.length:Int):=(by omega);have hk0:(0:Int)≤(k:Int):=(by omega);obtain⟨e0,e1,e2,e3,e4⟩:=QaS hB;have hq:∀w',(binOp .eql 59 (.agg #[.int .i64 l[k].e,.int .i64 l[k].v,.int .i64 l[k].f,.int .i64 l[k].u,.int .i64 l[k].g]) (.agg #[.int .i64 s.e,.int .i64 s.v,.int .i64 s.f,.int .i64 s.u,.int .i64 s.g])).run Tryd.prog w'=.ok (.bool (decide (l[k]=s))) w':=fun w'=>eql_seal _ _ _
   by_cases heq:l[k]=s
   ·rw[decide_eq_true heq] at hq;have Heq:=Lh (sidx_hit s l k hlt heq);clear heq;go_wp2_with fail;go_quiet (fail);go_wp2_with fail;go_ret;exact⟨Qae (by rw[hi.out,Heq.out]),Below.dn hb _⟩
   ·rw[decide_eq_false heq] at hq;have Heq:=Lh (sidx_miss s l k hlt heq);clear heq;go_wp2_with fail;go_quiet (fail);go_wp2_with fail;go_roundw;(case rel=>exact⟨k+1,by omega,by go_num,by rw[hi.out,Heq.out];rfl,Below.dn hb _,hB⟩);case measure=>simp[intOf];omega
  ·go_wp2_with fail;go_ret;exact⟨by rw[hi.out,List.drop_of_length_le (by omega)];rfl,hb⟩
theorem svalid_any (s:Seal)(w:World):
 Calls Tryd.prog 34 #[.agg s.cells.toArray] w fun e w'=>e=.returned (.bool (vld s))∧Below w.heap.size w w':=by
 unfold Seal.cells;go_enter Tryd.func34,Tryd.ntmps34;go_wp2;(all_goals go_ret);(all_goals refine⟨Qao ?_,bR.alloc nL _⟩);all_goals first|(symm;apply vld_t;omega)|(symm;apply vld_f;omega)|(unfold vld;apply decide_eq_decide.2;omega)
theorem neq_span (a b:Span)(w:World):(binOp .neq 52 (.agg #[.int .i64 a.f,.int .i64 a.u]) (.agg #[.int .i64 b.f,.int .i64 b.u])).run Tryd.prog w=.ok (.bool (!decide (a=b))) w:=by
 obtain⟨a1,a2⟩:=a;obtain⟨b1,b2⟩:=b;simp only[Span.mk.injEq];go_simp;(repeat' split);all_goals simp[*]
theorem same_spans (A B:Option Addr)(c d:Nat)(l m:List Span)(w:World)(hl:Sl w (fun b=>b<w.heap.size) A c l)(hm:Sl w (fun b=>b<w.heap.size) B d m):
 Calls Tryd.prog 31 #[.slice A l.length c,.slice B m.length d] w fun e w'=>e=.returned (.bool (decide (l=m)))∧Below w.heap.size w w':=by
 have hlen:l.length≤9223372036854775807:=by have:=hl.1;have:=hl.2.1;unfold maxLen at this;omega
 have hlem:m.length≤9223372036854775807:=by have:=hm.1;have:=hm.2.1;unfold maxLen at this;omega
 by_cases hll:l.length=m.length
 ·have hnn:((l.length:Int) != (m.length:Int))=false:=by rw[hll];simp
  have Hll:=Lh hll;go_enter Tryd.func31,Tryd.ntmps31;clear hll;go_wp2;go_loopw [5] (fun i wr=>∃k:Nat,k≤l.length∧i=.int .i64 k∧Hid (l.take k=m.take k)∧Below w.heap.size w wr) (fun i _=>l.length-(intOf i).toNat);(case atStart=>exact⟨0,Nat.zero_le _,rfl,rfl,Below.refl _ _⟩);case round=>
   obtain⟨k,hk,rfl,hi,hb⟩:=hrel;by_cases hlt:k<l.length
   ·have hltm:k<m.length:=by have:=Hll.out;omega
    obtain⟨b,o,rfl,hbS,hbl,hok,c0,c1⟩:=span_at (hl.keep (Kept.all hb) hb.size) hlt;obtain⟨b2,o2,rfl,hbS2,hbl2,hok2,d0,d1⟩:=span_at (hm.keep (Kept.all hb) hb.size) hltm;have hkl:(k:Int)<(l.length:Int):=(by omega);have hkm:(k:Int)<(m.length:Int):=(by omega);have hk0:(0:Int)≤(k:Int):=by omega
    have hq:∀w',(binOp .neq 52 (.agg #[.int .i64 l[k].f,.int .i64 l[k].u]) (.agg #[.int .i64 m[k].f,.int .i64 m[k].u])).run Tryd.prog w'=.ok (.bool (!decide (l[k]=m[k]))) w':=fun w'=>neq_span _ _ _
    by_cases heq:l[k]=m[k]
    ·rw[decide_eq_true heq] at hq;have Heq:=Lh heq;clear heq;go_wp2_with fail;go_quiet (fail);go_wp2_with fail;go_roundw;(case rel=>exact⟨k+1,by omega,by go_num,take_succ_eq hlt hltm hi.out Heq.out,Below.dn hb _⟩);case measure=>simp[intOf];omega
    ·rw[decide_eq_false heq] at hq;have Heq:=Lh heq;clear heq;go_wp2_with fail;go_quiet (fail);go_wp2_with fail;go_ret;exact⟨Qao (decide_eq_false (ne_at hlt hltm Heq.out)).symm,Below.dn hb _⟩
   ·go_wp2_with fail;go_ret;exact⟨Qao (decide_eq_true (eq_all (by omega) (by have:=Hll.out;omega) hi.out)).symm,hb⟩
 ·have hnn:((l.length:Int) != (m.length:Int))=true:=by simp;omega
  have Hll:=Lh hll;clear hll;go_enter Tryd.func31,Tryd.ntmps31;go_wp2;go_ret;exact⟨Qao (decide_eq_false (fun e=>Hll.out (by rw[e]))).symm,Below.refl _ _⟩
theorem QbF:(Tryd.prog.info? 59).map (fun i=>(i.zero,i.size,i.bytes))=some (some (.agg #[.int .i64 0,.int .i64 0,.int .i64 0,.int .i64 0,.int .i64 0]),Rep.size Seal,40):=by kernel_rfl
instance:Rep Int where
 size:=1
 R _ _ cs n:=cs=[.int .i64 n]∧I64 n
 len:=by rintro w S cs s ⟨rfl,_⟩;rfl
 one:=by rintro w S cs s ⟨rfl,_⟩ u hu;simp at hu;rcases hu with rfl;rfl
 keep:=by rintro w w' S cs s h _;exact h
 mono:=by rintro w S S' cs s h _;exact h
theorem int_atZ {w:World}{S:Nat→Prop}{A:Option Addr}{c:Nat}{l:List Int}(h:Sl w S A c l){k:Nat}(hk:k<l.length):
 ∃b o,A=some ⟨b,o,none⟩∧S b∧b<w.heap.size∧I64 l[k]∧w.cell? ⟨b,o+k,none⟩=some (.int .i64 l[k]):=by
 obtain⟨b,o,es,rfl,hb,hlt,⟨rfl,hok⟩,hc⟩:=h.at_ hk;have:=hc 0 _ rfl;exact⟨b,o,rfl,hb,hlt,hok,by simpa[Rep.size] using this⟩
theorem seals_any (A:Option Addr)(c:Nat)(l:List Int)(w:World)(hl:Sl w (fun b=>b<w.heap.size) A c l):
 Calls Tryd.prog 6 #[.slice A l.length c] w fun e w'=>∃v,e=.returned v∧Own w' w.heap.size 59 v (Qbx l)∧Below w.heap.size w w':=by
 have hlen:l.length≤9223372036854775807:=by have:=hl.1;have:=hl.2.1;unfold maxLen at this;omega
 go_enter Tryd.func6,Tryd.ntmps6;go_wp2_with fail;go_loopw [3,4] (fun v i wr=>∃k:Nat,k≤l.length∧k≤8∧i=.int .i64 k∧Own wr w.heap.size 59 v (Qaz l k)∧Below w.heap.size w wr) (fun _ i _=>l.length-(intOf i).toNat);(case atStart=>exact⟨0,Nat.zero_le _,by omega,rfl,Own.nil _ _ _,Below.refl _ _⟩);case round=>
  obtain⟨k,hk,hk8,rfl,hown,hb⟩:=hrel;by_cases hlt:k<l.length∧k<8
  ·obtain⟨hlt,hlt8⟩:=hlt;obtain⟨b,o,rfl,hbS,hbl,hok,hc⟩:=int_atZ (hl.to hb) hlt;have hkl:(k:Int)<(l.length:Int):=(by omega);have hle:=sealsTo_le l k;have HS:=Lh (QcL l k hlt);unfold Qbc at HS;have hr:=aro_lt l[k] 10000000 (by omega);obtain⟨A1,c1,rfl,hs⟩:=hown.sl;go_wp2_with (go_at_call 17;refine(around_any _ _ _ hok (by omega) (by omega)).mono ?_;rintro e w' ⟨rfl,rfl⟩;generalize aro l[k] 10000000=n at *);have hbx:(wr.alloc (.cells (Qba n).cells.toArray 59)).heap[wr.heap.size]? =some (.cells (Qba n).cells.toArray 59 (0,0)):=heap_alloc_new wr _;refine(sindex0_any A1 c1 (Qaz l k) (Qba n) _ (hs.alloc _) (mkSeal_ok n)).mono ?_;rintro e w1 ⟨rfl,hb1⟩;have hB1:=(hb1.block wr.heap.size (by simp)).trans hbx;obtain⟨e0,e1,e2,e3,e4⟩:=QaS hB1;clear hB1;simp only[Qba] at e0 e1 e2 e3 e4;have hbb1:Below wr.heap.size wr w1:=(bR.alloc nL _).trans (hb1.mono (by simp));have hz:=hbb1.size;have hown1:=hown.below hbb1;have hbw1:Below w.heap.size w w1:=hb.trans (hbb1.mono hb.size);clear hb1 hbx hs hc hr hlen;have hwz:=hb.size;by_cases hneg:sidx (Qba n) (Qaz l k) 0<0
   ·rw[if_pos hneg] at HS;generalize sidx (Qba n) (Qaz l k) 0=q at*;go_wp2_with (at_builtin;refine Qan (α:=Seal) _ rfl (.tmp 46) (.tmp 48) 27 rfl w.heap.size 59 (.agg #[.int .i64 0,.int .i64 0,.int .i64 0,.int .i64 0,.int .i64 0]) 40 Tryd.underlying27 QbF rfl (by decide) _ _ rfl (hown1.alloc _) w1.heap.size _ (Qba n) (0,0) 59 rfl (heap_alloc_new w1 _) ⟨rfl,mkSeal_ok n⟩ (by omega) (by omega) (by simp;omega) _ rfl ?_;intro g cap w2 hown2 hg2 hat2 hlt2);go_roundw;(case rel=>exact⟨k+1,by omega,by omega,by go_num,by rw[HS.out];exact hown2,Qbk hbw1 hown1 (by omega) hg2⟩);case measure=>simp[intOf];omega
   ·rw[if_neg hneg] at HS;generalize sidx (Qba n) (Qaz l k) 0=q at*;go_wp2_with fail;go_roundw;(case rel=>exact⟨k+1,by omega,by omega,by go_num,by rw[HS.out];exact hown1,hbw1⟩);case measure=>simp[intOf];omega
  ·have hfin:Qbx l=Qaz l k:=seals_at l k hk8 (by omega);have Hfin:=Lh hfin;clear hfin;by_cases hlt:k<l.length
   ·obtain rfl:k=8:=by omega
    go_wp2_with fail;go_ret;exact⟨_,rfl,by rw[Hfin.out];exact hown,hb⟩
   ·go_wp2_with fail;go_ret;exact⟨_,rfl,by rw[Hfin.out];exact hown,hb⟩
end Go.Proofs.YtegaapiocihcpaaDoor
namespace Go.Proofs.YtegaapiocihcpaaDoor
open Go.RowKit
attribute [local go_sem ↓] Go.wp_at_zero Go.wp_at_succ
end Go.Proofs.YtegaapiocihcpaaDoor
namespace Go.Proofs.YtegaapiocihcpaaDoor
open Go.RowKit
attribute [local go_sem ↓] Go.wp_at_zero Go.wp_at_succ
theorem sindex_any (A:Option Addr)(c n:Nat)(l:List Seal)(s:Seal)(w:World)(hl:Sl w (fun b=>b<w.heap.size) A c l)(hn:l.length=n):
 Calls Tryd.prog 49 #[.slice A n c,.agg #[.int .i64 s.e,.int .i64 s.v,.int .i64 s.f,.int .i64 s.u,.int .i64 s.g]] w fun e w'=>e=.returned (.int .i64 (sidx s l 0))∧Below w.heap.size w w':=by
 subst hn;have hlen:l.length≤9223372036854775807:=by have:=hl.1;have:=hl.2.1;unfold maxLen at this;omega
 go_enter Tryd.func49,Tryd.ntmps49;go_wp2
 go_loopw [8] (fun i wr=>∃k:Nat,k≤l.length∧i=.int .i64 k∧Hid (sidx s l 0=sidx s (l.drop k) k)∧Below w.heap.size w wr∧wr.heap[w.heap.size]? =some (.cells s.cells.toArray 59 (0,0))) (fun i _=>l.length-(intOf i).toNat)
 (case atStart=>exact⟨0,Nat.zero_le _,rfl,rfl,bR.alloc nL _,heap_alloc_new w _⟩);case round=>
  obtain⟨k,hk,rfl,hi,hb,hB⟩:=hrel;by_cases hlt:k<l.length
  ·obtain⟨b,o,rfl,hbS,hbl,hok,c0,c1,c2,c3,c4⟩:=Qca (hl.keep (Kept.all hb) hb.size) hlt;have hkl:(k:Int)<(l.length:Int):=(by omega);have hk0:(0:Int)≤(k:Int):=(by omega);obtain⟨e0,e1,e2,e3,e4⟩:=QaS hB;have hq:∀w',(binOp .eql 59 (.agg #[.int .i64 s.e,.int .i64 s.v,.int .i64 s.f,.int .i64 s.u,.int .i64 s.g]) (.agg #[.int .i64 l[k].e,.int .i64 l[k].v,.int .i64 l[k].f,.int .i64 l[k].u,.int .i64 l[k].g])).run Tryd.prog w'=.ok (.bool (decide (s=l[k]))) w':=fun w'=>eql_seal _ _ _
   by_cases heq:l[k]=s
   ·rw[decide_eq_true heq.symm] at hq;have Heq:=Lh (sidx_hit s l k hlt heq);clear heq;go_wp2_with fail;go_quiet (fail);go_wp2_with fail;go_ret;exact⟨Qae (by rw[hi.out,Heq.out]),Below.dn hb _⟩
   ·rw[decide_eq_false (Ne.symm heq)] at hq;have Heq:=Lh (sidx_miss s l k hlt heq);clear heq;go_wp2_with fail;go_quiet (fail);go_wp2_with fail;go_roundw;(case rel=>exact⟨k+1,by omega,by go_num,by rw[hi.out,Heq.out];rfl,Below.dn hb _,hB⟩);case measure=>simp[intOf];omega
  ·go_wp2_with fail;go_ret;exact⟨Qae (by rw[hi.out,List.drop_of_length_le (by omega)];rfl),hb⟩
theorem contains_any (A:Option Addr)(c n:Nat)(l:List Seal)(s:Seal)(w:World)(hl:Sl w (fun b=>b<w.heap.size) A c l)(hn:l.length=n):
 Calls Tryd.prog 35 #[.slice A n c,.agg #[.int .i64 s.e,.int .i64 s.v,.int .i64 s.f,.int .i64 s.u,.int .i64 s.g]] w fun e w'=>e=.returned (.bool (decide (s∈l)))∧Below w.heap.size w w':=by
 have hm:=Lh (sidx_mem s l);go_enter Tryd.func35,Tryd.ntmps35;go_wp2_with (go_at_call 49;refine(sindex_any A c n l s _ (hl.alloc _) hn).mono ?_;rintro e w1 ⟨rfl,hb1⟩;generalize sidx s l 0=q at *);go_ret;exact⟨Qao (decide_eq_decide.2 hm.out),(bR.alloc nL _).trans (hb1.mono (by simp))⟩
theorem clone_any (A:Option Addr)(c n:Nat)(l:List Seal)(w:World)(hl:Sl w (fun b=>b<w.heap.size) A c l)(hn:l.length=n)(hsz:n≤1048576):
 Calls Tryd.prog 36 #[.slice A n c] w fun e w'=>∃v,e=.returned v∧Own w' w.heap.size 59 v l∧Below w.heap.size w w':=by
 have hq:=fun w'=>Lib.run_eql_slice_nil (P:=Tryd.prog) w' 27 59 A n c 0 0 Tryd.underlying27
 cases A with
 |none=>
  have hl0:l=[]:=by
   by_cases h0:0<l.length
   ·obtain⟨b,o,e,_⟩:=hl.2.2 h0;cases e
   ·exact List.eq_nil_of_length_eq_zero (by omega)
  subst hl0;simp only[Option.isNone_none] at hq;go_enter Tryd.func36,Tryd.ntmps36;go_wp2_with fail;go_ret;exact⟨_,rfl,Own.nil _ _ _,Below.refl _ _⟩
 |some a=>
  simp only[Option.isNone_some] at hq;go_enter Tryd.func36,Tryd.ntmps36;go_wp2_with (at_builtin;refine QaF (α:=Seal) _ rfl (.tmp 5) (.tmp 6) 27 rfl w.heap.size 59 (.agg #[.int .i64 0,.int .i64 0,.int .i64 0,.int .i64 0,.int .i64 0]) 40 Tryd.underlying27 QbF rfl (by decide) (.slice (some ⟨w.heap.size,0,none⟩) 0 0) [] rfl (Own.made w _ _ nL) (some a) c n l rfl hn (fun b=>b<w.heap.size) (hl.keep (Kept.all (bR.alloc nL _)) (by simp)) (by intro i (hi:i<w.heap.size) _ e;simp[Value.ownBlock] at e;omega) (by simp;omega) (by simp;omega) (by simp) ?_;intro v2 w2 hown2 hg2 hat2);go_ret;exact⟨_,rfl,hown2,QaE (bR.alloc nL _) (Own.made (α:=Seal) w _ _ nL) (by simp) hg2⟩
end Go.Proofs.YtegaapiocihcpaaDoor
namespace Go.Proofs.YtegaapiocihcpaaDoor
open Go.RowKit
attribute [local go_sem ↓] Go.wp_at_zero Go.wp_at_succ
theorem selected_3 (A:Option Addr)(c n:Nat)(l:List Seal)(f:FuncId)(c1 c2 c3:Value)(p:Seal→Bool)(w:World)(hl:Sl w (fun b=>b<w.heap.size) A c l)(hn:l.length=n)(hsz:n≤1048576) (hcf:∀(w':World) (args:Array Value),(callFunc f args).run Tryd.prog w'=.ok (.enter f args) w') (hf:∀(s:Seal) (w':World),Below w.heap.size w w'→Calls Tryd.prog f #[.agg #[.int .i64 s.e,.int .i64 s.v,.int .i64 s.f,.int .i64 s.u,.int .i64 s.g],c1,c2,c3] w' fun e w''=>e=.returned (.bool (p s))∧Below w'.heap.size w' w''):
 Calls Tryd.prog 22 #[.slice A n c,.func (.func f) #[] #[c1,c2,c3]] w fun e w'=>∃v,e=.returned v∧Own w' w.heap.size 59 v (l.filter p)∧Below w.heap.size w w':=by
 subst hn;have Hf:=Lh hf;clear hf;go_enter Tryd.func22,Tryd.ntmps22;go_wp2_with fail;go_loopw [5,10] (fun v i wr=>∃k:Nat,k≤l.length∧i=.int .i64 k∧Own wr w.heap.size 59 v ((l.take k).filter p)∧Below w.heap.size w wr) (fun _ i _=>l.length-(intOf i).toNat);(case atStart=>exact⟨0,Nat.zero_le _,rfl,Own.nil _ _ _,Below.refl _ _⟩);case round=>
  obtain⟨k,hk,rfl,hown,hb⟩:=hrel;have hwz:=hb.size;by_cases hlt:k<l.length
  ·obtain⟨b,o,rfl,hbS,hbl,hok,d0,d1,d2,d3,d4⟩:=Qca (hl.to hb) hlt;have hkl:(k:Int)<(l.length:Int):=(by omega);have hfl:((l.take k).filter p).length≤1048576:=(by have:=List.length_filter_le p (l.take k);rw[qK] at this;omega);have hbx:(wr.alloc (.cells l[k].cells.toArray 59)).heap[wr.heap.size]? =some (.cells l[k].cells.toArray 59 (0,0)):=heap_alloc_new wr _;have Qb1:(l.take (k+1)).filter p=if p l[k] then(l.take k).filter p++[l[k]] else(l.take k).filter p:=by
    rw[qT hlt,List.filter_append];cases hp:p l[k]<;>simp[hp]
   have HS:=Lh Qb1;clear Qb1;have Hbx:=Lh hbx;clear hbx;obtain⟨A1,c1',rfl,hs⟩:=hown.sl;go_wp2_with fail;refine(Hf.out l[k] _ (hb.alloc (by omega) _)).mono ?_;rintro e w1 ⟨rfl,hb1⟩;have hB1:=(hb1.block wr.heap.size (by simp)).trans Hbx.out;obtain⟨e0,e1,e2,e3,e4⟩:=QaS hB1;clear hB1 d0 d1 d2 d3 d4;have hbb1:Below wr.heap.size wr w1:=(bR.alloc nL _).trans (hb1.mono (by simp));have hz:=hbb1.size;have hown1:=hown.below hbb1;have hbw1:Below w.heap.size w w1:=hb.trans (hbb1.mono hb.size);clear hb1 hs;cases hp:p l[k]
   ·rw[hp] at HS;have Hp:=Lh hp;clear hp;go_wp2_with fail;go_roundw;(case rel=>exact⟨k+1,by omega,by go_num,by rw[HS.out];exact hown1,hbw1⟩);case measure=>simp[intOf];omega
   ·rw[hp] at HS;have Hp:=Lh hp;clear hp;go_wp2_with (at_builtin;refine Qan (α:=Seal) _ rfl (.tmp 17) (.tmp 19) 27 rfl w.heap.size 59 (.agg #[.int .i64 0,.int .i64 0,.int .i64 0,.int .i64 0,.int .i64 0]) 40 Tryd.underlying27 QbF rfl (by decide) _ _ rfl (hown1.alloc _) w1.heap.size _ l[k] (0,0) 59 rfl (heap_alloc_new w1 _) ⟨rfl,hok⟩ (by omega) (by omega) (by simp;omega) _ rfl ?_;intro g cap w2 hown2 hg2 hat2 hlt2);go_roundw;(case rel=>exact⟨k+1,by omega,by go_num,by rw[HS.out];exact hown2,Qbk hbw1 hown1 (by omega) hg2⟩);case measure=>simp[intOf];omega
  ·go_wp2_with fail;go_ret;exact⟨_,rfl,by rw[List.take_of_length_le (by omega)] at hown;exact hown,hb⟩
def onP (e v x:Int)(s:Seal):Bool:=decide (s.e=e∧s.v=v∧s.f≤x∧x<s.u)
def onH (e v n:Int)(s:Seal):Bool:=decide (s.e=e∧s.v=v∧s.f<n)
theorem onP_t {e v x:Int}{s:Seal}(h:s.e=e∧s.v=v∧s.f≤x∧x<s.u):onP e v x s=true:=decide_eq_true h
theorem onP_f {e v x:Int}{s:Seal}(h:¬(s.e=e∧s.v=v∧s.f≤x∧x<s.u)):onP e v x s=false:=decide_eq_false h
theorem onH_t {e v x:Int}{s:Seal}(h:s.e=e∧s.v=v∧s.f<x):onH e v x s=true:=decide_eq_true h
theorem onH_f {e v x:Int}{s:Seal}(h:¬(s.e=e∧s.v=v∧s.f<x)):onH e v x s=false:=decide_eq_false h
theorem onP_any (s:Seal)(p1 p2 p3:Addr)(e v x:Int)(w:World)(h1:w.cell? p1=some (.int .i64 e))(h2:w.cell? p2=some (.int .i64 v))(h3:w.cell? p3=some (.int .i64 x)):
 Calls Tryd.prog 45 #[.agg #[.int .i64 s.e,.int .i64 s.v,.int .i64 s.f,.int .i64 s.u,.int .i64 s.g],.pointer (some p1),.pointer (some p2),.pointer (some p3)] w fun r w'=>r=.returned (.bool (onP e v x s))∧Below w.heap.size w w':=by
 have g1:=World.block_lt_of_cell? w p1 h1;have g2:=World.block_lt_of_cell? w p2 h2;have g3:=World.block_lt_of_cell? w p3 h3;have k1:∀o,(w.alloc o).cell? p1=some (.int .i64 e):=fun o=>(World.cell?_alloc_lt w o p1 g1).trans h1
 have k2:∀o,(w.alloc o).cell? p2=some (.int .i64 v):=fun o=>(World.cell?_alloc_lt w o p2 g2).trans h2
 have k3:∀o,(w.alloc o).cell? p3=some (.int .i64 x):=fun o=>(World.cell?_alloc_lt w o p3 g3).trans h3
 clear h1 h2 h3;go_enter Tryd.func45,Tryd.ntmps45;go_wp2;(all_goals go_ret);(all_goals refine⟨Qao ?_,bR.alloc nL _⟩);(all_goals clear k1 k2 k3);all_goals first|(symm;apply onP_t;omega)|(symm;apply onP_f;omega)|(unfold onP;apply decide_eq_decide.2;omega)
theorem onH_any (s:Seal)(p1 p2 p3:Addr)(e v x:Int)(w:World)(h1:w.cell? p1=some (.int .i64 e))(h2:w.cell? p2=some (.int .i64 v))(h3:w.cell? p3=some (.int .i64 x)):
 Calls Tryd.prog 23 #[.agg #[.int .i64 s.e,.int .i64 s.v,.int .i64 s.f,.int .i64 s.u,.int .i64 s.g],.pointer (some p1),.pointer (some p2),.pointer (some p3)] w fun r w'=>r=.returned (.bool (onH e v x s))∧Below w.heap.size w w':=by
 have g1:=World.block_lt_of_cell? w p1 h1;have g2:=World.block_lt_of_cell? w p2 h2;have g3:=World.block_lt_of_cell? w p3 h3;have k1:∀o,(w.alloc o).cell? p1=some (.int .i64 e):=fun o=>(World.cell?_alloc_lt w o p1 g1).trans h1
 have k2:∀o,(w.alloc o).cell? p2=some (.int .i64 v):=fun o=>(World.cell?_alloc_lt w o p2 g2).trans h2
 have k3:∀o,(w.alloc o).cell? p3=some (.int .i64 x):=fun o=>(World.cell?_alloc_lt w o p3 g3).trans h3
 clear h1 h2 h3;go_enter Tryd.func23,Tryd.ntmps23;go_wp2;(all_goals go_ret);(all_goals refine⟨Qao ?_,bR.alloc nL _⟩);(all_goals clear k1 k2 k3);all_goals first|(symm;apply onH_t;omega)|(symm;apply onH_f;omega)|(unfold onH;apply decide_eq_decide.2;omega)
end Go.Proofs.YtegaapiocihcpaaDoor
namespace Go.Proofs.YtegaapiocihcpaaDoor
open Go.RowKit
attribute [local go_sem ↓] Go.wp_at_zero Go.wp_at_succ
end Go.Proofs.YtegaapiocihcpaaDoor
namespace Go.Proofs.YtegaapiocihcpaaDoor
open Go.RowKit
attribute [local go_sem ↓] Go.wp_at_zero Go.wp_at_succ
end Go.Proofs.YtegaapiocihcpaaDoor
namespace Go.Proofs.YtegaapiocihcpaaDoor
open Go.RowKit
attribute [local go_sem ↓] Go.wp_at_zero Go.wp_at_succ
set_option maxRecDepth 100000 in
theorem QcW (A:Option Addr)(c n:Nat)(l:List Seal)(s:Seal)(w:World)(hl:Sl w (fun b=>b<w.heap.size) A c l)(hn:l.length=n)(hs:s.ok):
 Calls Tryd.prog 16 #[.slice A n c,.agg #[.int .i64 s.e,.int .i64 s.v,.int .i64 s.f,.int .i64 s.u,.int .i64 s.g]] w fun e w'=>∃v,e=.returned (.tuple #[v,.int .i64 (Qdo l s).2])∧Own w' w.heap.size 59 v (Qdo l s).1∧Below w.heap.size w w':=by
 subst hn;obtain⟨out,er,hae⟩:∃out er,Qdo l s=(out,er):=⟨_,_,rfl⟩;rw[hae];unfold Qdo at hae;have Hae:=Lh hae;clear hae;have hlen:l.length≤9223372036854775807:=by have:=hl.1;have:=hl.2.1;unfold maxLen at this;omega
 have hbx:(w.alloc (.cells s.cells.toArray 59)).heap[w.heap.size]? =some (.cells s.cells.toArray 59 (0,0)):=heap_alloc_new w _;have Hbx:=Lh hbx;have Hb0:=Lh ((Below.refl w.heap.size w).alloc nL (.cells s.cells.toArray 59));clear hbx;go_enter Tryd.func16,Tryd.ntmps16;go_wp2_with fail;refine(svalid_any s _).mono ?_;rintro e w1 ⟨rfl,hb1⟩;have hB1:=(hb1.block w.heap.size (by simp)).trans Hbx.out;obtain⟨e0,e1,e2,e3,e4⟩:=QaS hB1;have hbw1:Below w.heap.size w w1:=Hb0.out.trans (hb1.mono (by simp));have hz1:w.heap.size+1≤w1.heap.size:=by have:=hb1.size;simpa using this
 cases hv:vld s
 ·rw[hv,if_pos rfl] at Hae;obtain⟨rfl,rfl⟩:=Prod.mk.inj Hae.out;have Hv:=Lh hv;clear hv;go_wp2_with fail;go_ret2;exact⟨_,rfl,Own.nil _ _ _,hbw1⟩
 ·rw[hv,if_neg (by simp)] at Hae;have Hv:=Lh hv;have HB1:=Lh hB1;clear hB1 hv;go_wp2_with fail;refine(contains_any A c l.length l s _ (hl.to hbw1) rfl).mono ?_;rintro e w2 ⟨rfl,hb2⟩;have HB2:=Lh ((hb2.block w.heap.size (by omega)).trans HB1.out);obtain⟨d0,d1,d2,d3,d4⟩:=QaS HB2.out;have hbw2:Below w.heap.size w w2:=hbw1.trans (hb2.mono hbw1.size);have hz2:w.heap.size+1≤w2.heap.size:=(by have:=hb2.size;omega);clear e0 e1 e2 e3 e4;by_cases hin:s∈l
  ·rw[if_pos hin] at Hae;obtain⟨rfl,rfl⟩:=Prod.mk.inj Hae.out;rw[decide_eq_true hin];clear hin;go_wp2_with fail;go_ret2;exact⟨_,rfl,Own.nil _ _ _,hbw2⟩
  ·rw[if_neg hin] at Hae;rw[decide_eq_false hin];clear hin;by_cases hbig:1000≤l.length
   ·rw[if_pos hbig] at Hae;obtain⟨rfl,rfl⟩:=Prod.mk.inj Hae.out;go_wp2_with fail;go_ret2;exact⟨_,rfl,Own.nil _ _ _,hbw2⟩
   ·rw[if_neg hbig] at Hae;obtain⟨rfl,rfl⟩:=Prod.mk.inj Hae.out;have hbig':l.length<1000:=(by omega);clear hbig;have hl2:=hl.to hbw2;go_wp2_with fail;have hne0:=World.new_ne w2 ⟨w.heap.size,0,none⟩ d0;have hne1:=World.new_ne w2 ⟨w.heap.size,1,none⟩ d1;have hne2:=World.new_ne w2 ⟨w.heap.size,2,none⟩ d2;have hne3:=World.new_ne w2 ⟨w.heap.size,3,none⟩ d3;have hne4:=World.new_ne w2 ⟨w.heap.size,4,none⟩ d4
    go_region_held3 (fun w'=>w'.cell? ⟨w.heap.size,0,none⟩=some (.int .i64 s.e)∧w'.cell? ⟨w.heap.size,1,none⟩=some (.int .i64 s.v)∧w'.cell? ⟨w.heap.size,2,none⟩=some (.int .i64 s.f)∧w'.cell? ⟨w.heap.size,3,none⟩=some (.int .i64 s.u)∧w'.cell? ⟨w.heap.size,4,none⟩=some (.int .i64 s.g)) (go_keep)
     (first|((refine Qcd (α:=Seal) _ (by rfl) (.tmp 19) (.tmp 21) 27 (by rfl) _ 59 (.agg #[.int .i64 0,.int .i64 0,.int .i64 0,.int .i64 0,.int .i64 0]) 40 Tryd.underlying27 QbF rfl (by decide) _ _ (by rfl) (hown3.alloc _) w3.heap.size _ s (0,0) 59 (by rfl) (heap_alloc_new w3 _) ⟨rfl,hs⟩ (by first|omega|(simp;omega)) (by first|omega|(simp;omega)) (by first|omega|(simp;omega)) _ rfl ?_);intro g4 cap4 w4 hown4 hg4 hat4 hlt4;obtain⟨_,_,_,_,_⟩:=QaS ((keep_push hown3 hg4 (b:=w.heap.size) (by omega) (by omega)).trans HB3))|((refine Qcd (α:=Seal) _ (by rfl) (.tmp 19) (.tmp 21) 27 (by rfl) _ 59 (.agg #[.int .i64 0,.int .i64 0,.int .i64 0,.int .i64 0,.int .i64 0]) 40 Tryd.underlying27 QbF rfl (by decide) _ _ (by rfl) hown5 w2.heap.size _ s (0,0) 59 (by rfl) HB5 ⟨rfl,hs⟩ (by first|omega|(simp;omega)) (by first|omega|(simp;omega)) (by first|omega|(simp;omega)) _ rfl ?_);intro g4 cap4 w4 hown4 hg4 hat4 hlt4;obtain⟨_,_,_,_,_⟩:=QaS ((keep_cat hown5 hg4 (b:=w.heap.size) (by omega) (by omega)).trans HB6))|(go_at_call 36;(with_reducible refine(clone_any A c l.length l _ (hl2.drew) rfl (by omega)).mono ?_);rintro e w3 ⟨v3,rfl,hown3,hb3⟩;have hz3:w2.heap.size≤w3.heap.size:=hb3.size;replace hown3:=hown3.re (B:=w.heap.size+1) (by show _≤w2.heap.size;omega);have HB3:=(hb3.block w.heap.size (by show _<w2.heap.size;omega)).trans HB2.out;obtain⟨f0,f1,f2,f3,f4⟩:=QaS HB3)|(go_at_call 36;(with_reducible refine(clone_any A c l.length l _ ((hl2.alloc _).drew) rfl (by omega)).mono ?_);rintro e w5 ⟨v5,rfl,hown5,hb5⟩;have hz5:w2.heap.size+1≤w5.heap.size:=(by have:=hb5.size;simpa using this);have hl5:Below w.heap.size w w5:=hbw2.trans (((bR.alloc nL _).drew.trans (hb5.mono (by simp))).mono hbw2.size);replace hown5:=hown5.re (B:=w.heap.size+1) (by simp;omega);have HB5:=(hb5.block w2.heap.size (by simp)).trans (heap_alloc_new w2 _);have HB6:=(hb5.block w.heap.size (by simp;omega)).trans ((Below.heap_alloc w2 _ w.heap.size (by omega)).trans HB2.out);obtain⟨f0,f1,f2,f3,f4⟩:=QaS HB6)
       )
    (all_goals go_wp2_with fail);all_goals go_ret2
    ·exact⟨_,rfl,hown4.re (by omega),Qbk (hbw2.drew.trans (hb3.mono hbw2.size)) (hown3.re (by omega)) (by omega) hg4⟩
    ·exact⟨_,rfl,hown4.re (by omega),QaE hl5 (hown5.re (by omega)) (by omega) hg4⟩
end Go.Proofs.YtegaapiocihcpaaDoor
namespace Go.Proofs.YtegaapiocihcpaaDoor
open Go.RowKit
theorem ofInt_i64 (a:Nat)(ha:a<9223372036854775808):(BitVec.ofInt 64 (a:Int)).toNat=a:=by
 rw[BitVec.ofInt_natCast,BitVec.toNat_ofNat];exact Nat.mod_eq_of_lt (by omega)
theorem i64_or_nat (a b:Nat)(ha:a<9223372036854775808)(hb:b<9223372036854775808):bits .or .i64 (a:Int) (b:Int)=((a ||| b:Nat):Int):=by
 have hx:a ||| b<2^63:=Nat.or_lt_two_pow (by omega) (by omega);show IntKind.i64.wrap ((BitVec.ofInt 64 (a:Int) ||| BitVec.ofInt 64 (b:Int)).toNat:Int)=_;rw[BitVec.toNat_or,ofInt_i64 a ha,ofInt_i64 b hb,IntKind.wrap_i64];omega
theorem or_shl (G:Nat)(g:Int)(hG:G<65536)(h0:0≤g)(h1:g<16):bits .or .i64 (G:Int) (wrap64 (2^g.toNat))=((G ||| 2^g.toNat:Nat):Int):=by
 have hp:2^g.toNat<2^16:=Nat.pow_lt_pow_right (by omega) (by omega);have e:(2:Int)^g.toNat=((2^g.toNat:Nat):Int):=by simp
 rw[e];generalize 2^g.toNat=m at*;have e2:wrap64 (m:Int)=m:=by unfold wrap64;omega
 rw[e2,i64_or_nat G m (by omega) (by omega)]
def may (G:Nat)(x:Int):Bool:=decide (BitVec.ofNat 64 G &&& BitVec.ofInt 64 x=BitVec.ofNat 64 G)
theorem bv_andn (a b:BitVec 64):a &&& ~~~b=0↔a &&& b=a:=by
 constructor
 ·intro h;ext i hi;have h1:=congrArg (fun x:BitVec 64=>x[i]'hi) h;simp at h1;simp;exact h1
 ·intro h;ext i hi;have h1:=congrArg (fun x:BitVec 64=>x[i]'hi) h;simp at h1;simp;exact h1
theorem may_andn (G:Nat)(x:Int):(bits .andNot .i64 (G:Int) x==0)=may G x:=by
 have e:bits .andNot .i64 (G:Int) x=IntKind.i64.wrap ((BitVec.ofNat 64 G &&& ~~~ BitVec.ofInt 64 x).toNat:Int):=by
  rw[←BitVec.ofInt_natCast];rfl
 rw[Bool.eq_iff_iff,may,decide_eq_true_iff,beq_iff_eq,e,IntKind.wrap_i64,←bv_andn,←BitVec.toNat_inj];clear e;generalize BitVec.ofNat 64 G &&& ~~~ BitVec.ofInt 64 x=r;have hr:=r.isLt;simp;omega
theorem Qbp (A:Option Addr)(c n:Nat)(l:List Seal)(e v x:Int)(w:World)(hl:Sl w (fun b=>b<w.heap.size) A c l)(hn:l.length=n)(hsz:n≤1048576)(hg:∀s∈l,0≤s.g∧s.g<16):
 Calls Tryd.prog 29 #[.slice A n c,.int .i64 e,.int .i64 v,.int .i64 x] w fun r w'=>r=.returned (.int .i64 ((gset (l.filter (onP e v x)):Nat):Int))∧Below w.heap.size w w':=by
 generalize hm:l.filter (onP e v x)=m;have Hm:=Lh hm;clear hm;have hb0:Below w.heap.size w (((w.alloc (.cells #[.int .i64 e] 3)).alloc (.cells #[.int .i64 v] 3)).alloc (.cells #[.int .i64 x] 3)):=
  ((bR.alloc nL _).alloc (by simp) _).alloc (by simp;omega) _
 have Hb0:=Lh hb0;have Hl0:=Lh (hl.to hb0);have hc1:(((w.alloc (.cells #[.int .i64 e] 3)).alloc (.cells #[.int .i64 v] 3)).alloc (.cells #[.int .i64 x] 3)).cell? ⟨w.heap.size,0,none⟩=some (.int .i64 e):=by go_simp
 have hc2:(((w.alloc (.cells #[.int .i64 e] 3)).alloc (.cells #[.int .i64 v] 3)).alloc (.cells #[.int .i64 x] 3)).cell? ⟨w.heap.size+1,0,none⟩=some (.int .i64 v):=by go_simp
 have hc3:(((w.alloc (.cells #[.int .i64 e] 3)).alloc (.cells #[.int .i64 v] 3)).alloc (.cells #[.int .i64 x] 3)).cell? ⟨w.heap.size+2,0,none⟩=some (.int .i64 x):=by go_simp
 clear hb0;go_enter Tryd.func29,Tryd.ntmps29;go_wp2_with fail;refine(selected_3 A c n l 45 _ _ _ (onP e v x) _ Hl0.out hn hsz (fun _ _=>by kernel_rfl) (fun s w' hb=>onP_any s _ _ _ e v x w' ((hb.cell (by first|(simp;done)|(simp;omega))).trans hc1) ((hb.cell (by first|(simp;done)|(simp;omega))).trans hc2) ((hb.cell (by first|(simp;done)|(simp;omega))).trans hc3))).mono ?_;rintro r w1 ⟨v1,rfl,hown1,hb1⟩;rw[Hm.out] at hown1;have hfl:m.length≤1048576:=by have:=List.length_filter_le (onP e v x) l;rw[Hm.out] at this;omega
 have hgf:∀s∈m,0≤s.g∧s.g<16:=fun s hs=>hg s (List.mem_filter.1 (by rw[Hm.out];exact hs:s∈l.filter (onP e v x))).1
 have hbw1:Below w.heap.size w w1:=Hb0.out.trans (hb1.mono (by simp;omega));obtain⟨A1,c1,rfl,hs1⟩:=hown1.sl;have Hgf:=Lh hgf;clear hc1 hc2 hc3 hb1 hown1 hgf hg Hb0 Hl0;go_wp2_with fail;go_loopw [9,16] (fun o i wr=>∃k:Nat,k≤m.length∧i=.int .i64 k∧o=.int .i64 ((gset (m.take k):Nat):Int)∧Below w1.heap.size w1 wr) (fun _ i _=>m.length-(intOf i).toNat);(case atStart=>exact⟨0,Nat.zero_le _,rfl,rfl,Below.refl _ _⟩);case round=>
  obtain⟨k,hk,rfl,rfl,hb⟩:=hrel;by_cases hlt:k<m.length
  ·obtain⟨b,o,rfl,hbS,hbl,hok,d0,d1,d2,d3,d4⟩:=Qca (hs1.to hb) hlt;have hkl:(k:Int)<(m.length:Int):=(by omega);have hG:=gset_lt (m.take k) (fun s hs=>(Hgf.out s (List.mem_of_mem_take hs)).2);have hg2:=Hgf.out m[k] (List.getElem_mem _);have HS:=Lh (gset_succ m k hlt);have HO:=Lh (or_shl (gset (m.take k)) m[k].g hG hg2.1 hg2.2);unfold gOr at HS;obtain⟨hg0,hg1⟩:=hg2;generalize gset (m.take k)=G at*;go_wp2_with fail;go_roundw;(case rel=>exact⟨k+1,by omega,by go_num,by rw[HS.out,←HO.out],hb.alloc hb.size _⟩);case measure=>simp[intOf];omega
  ·go_wp2_with fail;go_ret;exact⟨Qae (by rw[List.take_of_length_le (by omega)]),hbw1.trans (hb.mono hbw1.size)⟩
end Go.Proofs.YtegaapiocihcpaaDoor
namespace Go.Proofs.YtegaapiocihcpaaDoor
open Go.RowKit
attribute [local go_sem ↓] Go.wp_at_zero Go.wp_at_succ
theorem may_any (A:Option Addr)(c n:Nat)(l:List Seal)(gs e v x:Int)(w:World)(hl:Sl w (fun b=>b<w.heap.size) A c l)(hn:l.length=n)(hsz:n≤1048576)(hg:∀s∈l,0≤s.g∧s.g<16):
 Calls Tryd.prog 30 #[.slice A n c,.int .i64 gs,.int .i64 e,.int .i64 v,.int .i64 x] w fun r w'=>r=.returned (.bool (may (gset (l.filter (onP e v x))) gs))∧Below w.heap.size w w':=by
 have Hg:=Lh hg;have Hm:=Lh (may_andn (gset (l.filter (onP e v x))) gs);clear hg;go_enter Tryd.func30,Tryd.ntmps30;go_wp2_with fail;refine(Qbp A c n l e v x w hl hn hsz Hg.out).mono ?_;rintro r w1 ⟨rfl,hb⟩;have Hb:=Lh hb;clear hb;go_wp2_with fail;go_ret;exact⟨Qao Hm.out,Hb.out⟩
end Go.Proofs.YtegaapiocihcpaaDoor
namespace Go.Proofs.YtegaapiocihcpaaDoor
open Go.RowKit
def Canon (P:Int→Prop)(hi:Int):Int→List Span→Prop
 |lo,[]=>∀x,lo≤x→x<hi→¬P x
 |lo,s::r=>lo≤s.f∧s.f<s.u∧s.u≤hi∧(∀x,lo≤x→x<s.f→¬P x)∧(∀x,s.f≤x→x<s.u→P x)∧(s.u<hi→¬P s.u)∧Canon P hi s.u r
theorem Canon.unique {P:Int→Prop}{hi:Int}:∀{lo:Int} {a b:List Span},Canon P hi lo a→Canon P hi lo b→a=b:=by
 intro lo a;induction a generalizing lo with
 |nil=>
  intro b ha hb;cases b with
  |nil=>rfl
  |cons s r=>
   obtain⟨h1,h2,h3,h4,h5,h6,h7⟩:=hb;exact absurd (h5 s.f (by omega) h2) (ha s.f h1 (by omega))
 |cons s r ih=>
  intro b ha hb;obtain⟨h1,h2,h3,h4,h5,h6,h7⟩:=ha;cases b with
  |nil=>exact absurd (h5 s.f (by omega) h2) (hb s.f h1 (by omega))
  |cons t q=>
   obtain⟨k1,k2,k3,k4,k5,k6,k7⟩:=hb;have ef:s.f=t.f:=by
    rcases Int.lt_trichotomy s.f t.f with h|h|h
    ·exact absurd (h5 s.f (by omega) h2) (k4 s.f h1 h)
    ·exact h
    ·exact absurd (k5 t.f (by omega) k2) (h4 t.f k1 h)
   have eu:s.u=t.u:=by
    rcases Int.lt_trichotomy s.u t.u with h|h|h
    ·exact absurd (k5 s.u (by omega) h) (h6 (by omega))
    ·exact h
    ·exact absurd (h5 t.u (by omega) h) (k6 (by omega))
   have est:s=t:=(by cases s;cases t;simp only at ef eu;rw[ef,eu]);rw[est];rw[eu] at h7;rw[ih h7 k7]
theorem Canon.congr {P Q:Int→Prop}{hi lo:Int}{l:List Span}(h:Canon P hi lo l)(e:∀x,lo≤x→x<hi→(P x↔Q x)):Canon Q hi lo l:=by
 induction l generalizing lo with
 |nil=>exact fun x h1 h2 hq=>h x h1 h2 ((e x h1 h2).2 hq)
 |cons s r ih=>
  obtain⟨h1,h2,h3,h4,h5,h6,h7⟩:=h;exact⟨h1,h2,h3,fun x a b c=>h4 x a b ((e x a (by omega)).2 c),fun x a b=>(e x (by omega) (by omega)).1 (h5 x a b),fun a b=>h6 a ((e s.u (by omega) a).2 b),ih h7 fun x a b=>e x (by omega) b⟩
def Qb1 (a b:Int):List Span→List Span
 |[]=>[⟨a,b⟩]
 |[s]=>if a≤s.u then[⟨s.f,max s.u b⟩] else[s,⟨a,b⟩]
 |s::t::r=>s::Qb1 a b (t::r)
theorem hstep_canon {P:Int→Prop}{hi lo a b:Int}{l:List Span}(h:Canon P hi lo l)(hf:∀s∈l,s.f≤a)(hlo:lo≤a)(hab:a<b)(hb:b≤hi):Canon (fun x=>P x∨(a≤x∧x<b)) hi lo (Qb1 a b l):=by
 induction l generalizing lo with
 |nil=>
  refine⟨hlo,hab,hb,?_,fun x h1 h2=>.inr ⟨h1,h2⟩,?_,?_⟩
  ·rintro x h1 h2 (hp|hp)
   ·exact h x h1 (by simp only at h2;omega) hp
   ·simp only at hp h2;omega
  ·rintro h1 (hp|hp)
   ·exact h _ (by simp only;omega) h1 hp
   ·simp only at hp;omega
  ·rintro x h1 h2 (hp|hp)
   ·exact h x (by simp only at h1;omega) h2 hp
   ·simp only at hp h1;omega
 |cons s r ih=>
  obtain⟨k1,k2,k3,k4,k5,k6,k7⟩:=h;have hsa:=hf s List.mem_cons_self;cases r with
  |nil=>
   by_cases ha:a≤s.u
   ·simp only[Qb1,if_pos ha];refine⟨k1,by simp only;omega,by simp only;omega,?_,?_,?_,?_⟩
    ·rintro x h1 h2 (hp|hp)
     ·exact k4 x h1 h2 hp
     ·simp only at hp h2;omega
    ·intro x h1 h2;by_cases hx:x<s.u
     ·exact .inl (k5 x h1 hx)
     ·exact .inr (by simp only at h2;omega)
    ·rintro h1 (hp|hp)
     ·by_cases hm:b≤s.u
      ·simp only[Int.max_eq_left hm] at hp h1;exact k6 h1 hp
      ·simp only[Int.max_eq_right (by omega:s.u≤b)] at hp h1;exact k7 b (by omega) h1 hp
     ·simp only at hp;omega
    ·rintro x h1 h2 (hp|hp)
     ·exact k7 x (by simp only at h1;omega) h2 hp
     ·simp only at hp h1;omega
   ·simp only[Qb1,if_neg ha];refine⟨k1,k2,k3,?_,fun x h1 h2=>.inl (k5 x h1 h2),?_,?_,hab,hb,?_,fun x h1 h2=>.inr ⟨h1,h2⟩,?_,?_⟩
    ·rintro x h1 h2 (hp|hp)
     ·exact k4 x h1 h2 hp
     ·omega
    ·rintro h1 (hp|hp)
     ·exact k6 h1 hp
     ·omega
    ·simp only;omega
    ·rintro x h1 h2 (hp|hp)
     ·exact k7 x h1 (by simp only at h2;omega) hp
     ·simp only at h2;omega
    ·rintro h1 (hp|hp)
     ·exact k7 _ (by simp only;omega) h1 hp
     ·simp only at hp;omega
    ·rintro x h1 h2 (hp|hp)
     ·exact k7 x (by simp only at h1;omega) h2 hp
     ·simp only at hp h1;omega
  |cons t q=>
   have hta:=hf t (by simp);obtain⟨j1,j2,j3,j4,j5,j6,j7⟩:=id k7;have hst:s.u<t.f:=by
    by_cases e:s.u=t.f
    ·exact absurd (j5 t.f (by omega) j2) (by rw[←e];exact k6 (by omega))
    ·omega
   refine⟨k1,k2,k3,?_,fun x h1 h2=>.inl (k5 x h1 h2),?_,ih k7 (fun s hs=>hf s (List.mem_cons_of_mem _ hs)) (by omega)⟩
   ·rintro x h1 h2 (hp|hp)
    ·exact k4 x h1 h2 hp
    ·omega
   ·rintro h1 (hp|hp)
    ·exact k6 h1 hp
    ·omega
theorem hstep_last (a b:Int)(p:List Span)(s:Span):Qb1 a b (p++[s])=if a≤s.u then p++[⟨s.f,max s.u b⟩] else p++[s,⟨a,b⟩]:=by
 induction p with
 |nil=>simp only[List.nil_append,Qb1]
 |cons y p ih=>
  have e:∃z q,p++[s]=z::q:=(by cases p<;>exact⟨_,_,rfl⟩);obtain⟨z,q,e⟩:=e;rw[List.cons_append,e,Qb1,←e,ih];split<;>rfl
theorem hstep_f (a b:Int)(l:List Span):∀s∈Qb1 a b l,s.f=a∨∃t∈l,s.f=t.f:=by
 induction l with
 |nil=>intro s hs;simp[Qb1] at hs;subst hs;exact .inl rfl
 |cons y r ih=>
  cases r with
  |nil=>
   intro s hs;simp only[Qb1] at hs;split at hs
   ·simp at hs;subst hs;exact .inr ⟨y,by simp,rfl⟩
   ·simp at hs;rcases hs with rfl|rfl
    ·exact .inr ⟨s,by simp,rfl⟩
    ·exact .inl rfl
  |cons t q=>
   intro s hs;simp only[Qb1] at hs;rcases List.mem_cons.1 hs with rfl|hs
   ·exact .inr ⟨s,by simp,rfl⟩
   ·rcases ih s hs with h|⟨z,hz,e⟩
    ·exact .inl h
    ·exact .inr ⟨z,List.mem_cons_of_mem _ hz,e⟩
end Go.Proofs.YtegaapiocihcpaaDoor
namespace Go.Proofs.YtegaapiocihcpaaDoor
open Go.RowKit
attribute [local go_sem ↓] Go.wp_at_zero Go.wp_at_succ
def Qc6 (a b:Int):Int:=if a<b then -1 else if b<a then 1 else 0
theorem compare_anyZ (a b:Int)(w:World):Calls Tryd.prog 26 #[.int .i64 a,.int .i64 b] w fun e w'=>e=.returned (.int .i64 (Qc6 a b))∧w=w':=by
 by_cases h1:a<b
 ·have hf:Qc6 a b= -1:=by unfold Qc6;rw[if_pos h1]
  have Hf:=Lh hf;clear hf;go_enter Tryd.func26,Tryd.ntmps26;go_wp2;go_ret;exact⟨Qae Hf.out.symm,rfl⟩
 ·by_cases h2:b<a
  ·have hf:Qc6 a b=1:=by unfold Qc6;rw[if_neg h1,if_pos h2]
   have Hf:=Lh hf;clear hf;go_enter Tryd.func26,Tryd.ntmps26;go_wp2;go_ret;exact⟨Qae Hf.out.symm,rfl⟩
  ·have hf:Qc6 a b=0:=by unfold Qc6;rw[if_neg h1,if_neg h2]
   have Hf:=Lh hf;clear hf;go_enter Tryd.func26,Tryd.ntmps26;go_wp2;go_ret;exact⟨Qae Hf.out.symm,rfl⟩
theorem cmpF_any (s t:Seal)(w:World):Calls Tryd.prog 25 #[.agg #[.int .i64 s.e,.int .i64 s.v,.int .i64 s.f,.int .i64 s.u,.int .i64 s.g],.agg #[.int .i64 t.e,.int .i64 t.v,.int .i64 t.f,.int .i64 t.u,.int .i64 t.g]] w fun e w'=>e=.returned (.int .i64 (Qc6 s.f t.f))∧Below w.heap.size w w':=by
 go_enter Tryd.func25,Tryd.ntmps25;go_wp2_with (go_at_call 26;refine(compare_anyZ _ _ _).mono ?_;rintro e w' ⟨rfl,rfl⟩);go_ret;exact⟨rfl,(bR.alloc nL _).alloc (by simp) _⟩
def almost (l:List Seal)(i j:Nat):Prop:=∀a b,a<b→b≤i→b≠j→∀x y,l[a]? =some x→l[b]? =some y→x.f≤y.f
def QcS (l:List Seal)(i:Nat):Prop:=∀a b,a<b→b<i→∀x y,l[a]? =some x→l[b]? =some y→x.f≤y.f
def byF (l:List Seal):Prop:=QcS l l.length
def swapL (l:List Seal)(j:Nat)(x y:Seal):List Seal:=(l.set j x).set (j-1) y
theorem swapL_length (l:List Seal)(j:Nat)(x y:Seal):(swapL l j x y).length=l.length:=by simp[swapL]
theorem swapL_get (l:List Seal)(j:Nat)(x y:Seal)(h0:0<j)(hj:j<l.length)(b:Nat):(swapL l j x y)[b]? =if b=j-1 then some y else if b=j then some x else l[b]? :=by
 unfold swapL;rw[List.getElem?_set,List.getElem?_set];by_cases h1:b=j-1
 ·rw[if_pos h1.symm,if_pos (by simp;omega),if_pos h1]
 ·rw[if_neg (Ne.symm h1),if_neg h1];by_cases h2:b=j
  ·rw[if_pos h2.symm,if_pos (by omega),if_pos h2]
  ·rw[if_neg (Ne.symm h2),if_neg h2]
theorem swapL_perm (l:List Seal)(j:Nat)(h0:0<j)(hj:j<l.length):(swapL l j (l[j-1]'(by omega)) l[j]).Perm l:=by
 obtain⟨p,x,y,r,hp,rfl⟩:∃p x y r,p.length=j-1∧l=p++x::y::r:=by
  refine⟨l.take (j-1),l[j-1]'(by omega),l[j],l.drop (j+1),by rw[qK];omega,?_⟩;(conv=>lhs;rw[←List.take_append_drop (j-1) l]);congr 1;rw[List.drop_eq_getElem_cons (by omega)];congr 1;have e:j-1+1=j:=(by omega);rw[e,List.drop_eq_getElem_cons hj]
 have e:swapL (p++x::y::r) j ((p++x::y::r)[j-1]'(by omega)) (p++x::y::r)[j]=p++y::x::r:=by
  apply List.ext_getElem?;intro b;rw[swapL_get _ _ _ _ h0 hj];have g1:(p++x::y::r)[j-1]'(by omega)=x:=(by rw[List.getElem_append_right (by omega)];simp[hp]);have g2:(p++x::y::r)[j]=y:=by
   rw[List.getElem_append_right (by omega)];have e2:j-p.length=1:=(by omega);simp[e2]
  rw[g1,g2];by_cases h1:b=j-1
  ·subst h1;rw[if_pos rfl,List.getElem?_append_right (by omega)];simp[hp]
  ·rw[if_neg h1];by_cases h2:b=j
   ·subst h2;rw[if_pos rfl,List.getElem?_append_right (by omega),show b-p.length=1 from by omega];simp
   ·rw[if_neg h2];by_cases h3:b<p.length
    ·rw[List.getElem?_append_left h3,List.getElem?_append_left h3]
    ·rw[List.getElem?_append_right (by omega),List.getElem?_append_right (by omega)];obtain⟨c,hc⟩:∃c,b-p.length=c+2:=⟨b-p.length-2,by omega⟩;rw[hc];simp
 rw[e];exact List.Perm.append_left p (List.Perm.swap _ _ _)
theorem almost_start (l:List Seal)(i:Nat)(h:QcS l i):almost l i i:=fun a b hab hb hne x y hx hy=>h a b hab (by omega) x y hx hy
theorem almost_step (l:List Seal)(i j:Nat)(h:almost l i j)(h0:0<j)(hj:j<l.length)(hlt:l[j].f<(l[j-1]'(by omega)).f):almost (swapL l j (l[j-1]'(by omega)) l[j]) i (j-1):=by
 intro a b hab hb hne x y hx hy;rw[swapL_get _ _ _ _ h0 hj] at hx hy;have gj:l[j]? =some l[j]:=qG hj;have gp:l[j-1]? =some (l[j-1]'(by omega)):=qG (by omega);rw[if_neg hne] at hy;by_cases hbj:b=j
 ·rw[if_pos hbj] at hy;cases hy;by_cases ha:a=j-1
  ·rw[if_pos ha] at hx;cases hx;omega
  ·rw[if_neg ha,if_neg (by omega)] at hx;exact h a (j-1) (by omega) (by omega) (by omega) _ _ hx gp
 ·rw[if_neg hbj] at hy;by_cases ha:a=j-1
  ·rw[if_pos ha] at hx;cases hx;by_cases hjb:j<b
   ·exact h j b hjb hb hbj _ _ gj hy
   ·omega
  ·rw[if_neg ha] at hx;by_cases ha2:a=j
   ·rw[if_pos ha2] at hx;cases hx;exact h (j-1) b (by omega) hb hbj _ _ gp hy
   ·rw[if_neg ha2] at hx;exact h a b hab hb hbj _ _ hx hy
theorem almost_end (l:List Seal)(i j:Nat)(h:almost l i j)(hj:j≤i)(hle:0<j→∀x y,l[j-1]? =some x→l[j]? =some y→x.f≤y.f):QcS l (i+1):=by
 intro a b hab hb x y hx hy;by_cases hbj:b=j
 ·subst hbj;have h0:0<b:=(by omega);have hlen:b<l.length:=(List.getElem?_eq_some_iff.1 hy).1;have gp:l[b-1]? =some (l[b-1]'(by omega)):=qG (by omega);have h1:=hle h0 _ _ gp hy;by_cases ha:a=b-1
  ·subst ha;rw[gp] at hx;cases hx;exact h1
  ·have:=h a (b-1) (by omega) (by omega) (by omega) _ _ hx gp;omega
 ·exact h a b hab (by omega) hbj _ _ hx hy
theorem cmpF_lt (s t:Seal)(w:World)(h:s.f<t.f):Calls Tryd.prog 25 #[.agg #[.int .i64 s.e,.int .i64 s.v,.int .i64 s.f,.int .i64 s.u,.int .i64 s.g],.agg #[.int .i64 t.e,.int .i64 t.v,.int .i64 t.f,.int .i64 t.u,.int .i64 t.g]] w fun e w'=>e=.returned (.int .i64 (-1))∧Below w.heap.size w w':=by
 have e:Qc6 s.f t.f= -1:=by unfold Qc6;rw[if_pos h]
 have:=cmpF_any s t w;rwa [e] at this
theorem cmpF_ge (s t:Seal)(w:World)(h:¬s.f<t.f):Calls Tryd.prog 25 #[.agg #[.int .i64 s.e,.int .i64 s.v,.int .i64 s.f,.int .i64 s.u,.int .i64 s.g],.agg #[.int .i64 t.e,.int .i64 t.v,.int .i64 t.f,.int .i64 t.u,.int .i64 t.g]] w fun e w'=>∃c:Int,0≤c∧e=.returned (.int .i64 c)∧Below w.heap.size w w':=by
 refine(cmpF_any s t w).mono fun e w' ⟨he,hb⟩=>⟨_,?_,he,hb⟩
 unfold Qc6;rw[if_neg h];split<;>omega
end Go.Proofs.YtegaapiocihcpaaDoor
