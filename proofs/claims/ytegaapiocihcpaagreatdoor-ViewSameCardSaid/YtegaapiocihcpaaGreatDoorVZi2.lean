/- Texts of VwCSm. -/
import Derived.Test.YtegaapiocihcpaaGreatDoorVZi1
import Derived.Deep.CutRange
import Derived.Shelf.Strings.Builder1
import Derived.Shelf.Strings.Builder2
import Derived.Shelf.Strings.OnBuilder
import Derived.Shelf.Small.Bits
import Derived.Shelf.Strings.BuilderF
import Derived.Shelf.Strconv.Itoa0
import Derived.Shelf.Strconv.Itoa1
import Derived.Shelf.LaysM
import Derived.Shelf.Strconv.Itoa2
import Derived.Shelf.Strconv.Itoa3
import Derived.Shelf.Strings.Prefix
import Derived.Shelf.Bits.Mul64
import Derived.Shelf.Strings.Repeat
import Derived.Test.YtegaapiocihcpaaGreatDoorProg
import Derived.Lib.ItoaLen
import Derived.Lib.AppendIntMem
import Derived.Test.YtegaapiocihcpaaGreatDoorRows
import Derived.WalkKit
import Derived.ProofKit
import Derived.OpenShut
import Derived.JoinedCond
import Derived.Test.YtegaapiocihcpaaGreatDoorCards
import Derived.Test.YtegaapiocihcpaaGreatDoorTie
import Derived.Deep.DeepHandedRow
import Derived.Deep.MidRow
import Derived.Laws.MakeOwn
import Derived.WalkMore
import Derived.Deep.CutBlock
import Derived.Laws.CopyOwn
set_option maxHeartbeats 8000000
namespace Go.Proofs.YtegaapiocihcpaaGreatDoor
open Go.RowKit
def tot (l:List (List Word)):Nat:=l.flatten.length
theorem Qcy (l:List (List Word))(k:Nat)(h:k<l.length):tot (l.take (k+1))=tot (l.take k)+l[k].length:=by
 unfold tot;rw[qT h,List.flatten_append,qA,List.flatten_singleton]
theorem tot_le (l:List (List Word))(k:Nat):tot (l.take k)≤tot l:=by
 have h:tot l=tot (l.take k)+tot (l.drop k):=by
  unfold tot;rw[←qA,←List.flatten_append,List.take_append_drop]
 omega
theorem Qdj {w:World}{X:Nat}{A B:Option Addr}{n c m d:Nat}{t:TypeId}{fr:Nat × Nat}(hB:w.heap[X]? =some (.cells #[.slice A n c,.slice B m d] t fr)):
 w.cell? ⟨X,0,none⟩=some (.slice A n c)∧w.cell? ⟨X,1,none⟩=some (.slice B m d):=⟨cell_of_row w _ 0 _ _ _ hB,cell_of_row w _ 1 _ _ _ hB⟩
theorem count_any (A B:Option Addr)(c d:Nat)(a b:List (List Word))(w:World)(ha:Sl w (fun b=>b<w.heap.size) A c a)(hb:Sl w (fun b=>b<w.heap.size) B d b)(hla:a.length≤1048576)(hlb:b.length≤1048576)(ht:tot (a++b)≤9223372036854775807):
 Calls Tryz.prog 151 #[.agg #[.slice A a.length c,.slice B b.length d]] w fun e w'=>e=.returned (.int .i64 (tot (a++b):Int))∧Below w.heap.size w w':=by
 have hb0:=((Below.refl w.heap.size w).alloc nL (.cells #[.slice A a.length c,.slice B b.length d] 36));have hb1:=hb0.alloc (by simp) (.cells #[.slice A a.length c,.slice B b.length d] 34);have Hb1:=Lh hb1;have Ha:=Lh (ha.to hb1);have Hb:=Lh (hb.to hb1);have q0:((w.alloc (.cells #[.slice A a.length c,.slice B b.length d] 36)).alloc (.cells #[.slice A a.length c,.slice B b.length d] 34)).cell? ⟨w.heap.size+1,0,none⟩=some (.slice A a.length c):=by go_simp
 have q1:((w.alloc (.cells #[.slice A a.length c,.slice B b.length d] 36)).alloc (.cells #[.slice A a.length c,.slice B b.length d] 34)).cell? ⟨w.heap.size+1,1,none⟩=some (.slice B b.length d):=by go_simp
 have Q0:=Lh q0;have Q1:=Lh q1;clear ha hb hb0 hb1 q0 q1;go_enter Tryz.func151,Tryz.ntmps151;go_wp2_with fail;refine(QcR _ A B c d a b _ Q0.out Q1.out Ha.out Hb.out hla hlb).mono ?_;rintro e w1 ⟨v,rfl,hown,hbb⟩;obtain⟨A1,c1,rfl,hs⟩:=hown.sl;have hll:(a++b).length≤2097152:=by simp;omega
 generalize hl:a++b=l at*;have HL:=Lh hl;clear hl;have Hs:=Lh hs;have Hbb:=Lh (Hb1.out.trans (hbb.mono Hb1.out.size));clear hs hown hbb Ha Hb Q0 Q1 Hb1;go_wp2_with fail;go_loop [3,5,13] (fun n _ i=>∃k:Nat,k≤l.length∧i=.int .i64 k∧n=.int .i64 (tot (l.take k):Int)) (fun _ _ i=>l.length-(intOf i).toNat);(case atStart=>exact⟨0,Nat.zero_le _,rfl,rfl⟩);case round=>
  obtain⟨k,hk,rfl,rfl⟩:=hrel;by_cases hlt:k<l.length
  ·obtain⟨b,o,Ap,cp,rfl,_,hbl,hc,hp⟩:=Qbw Hs.out hlt;have hkl:(k:Int)<(l.length:Int):=(by omega);have hk0:(0:Int)≤(k:Int):=(by omega);have HT:=Lh (Qcy l k hlt);have h1:=tot_le l (k+1);have h2:tot (l.take k)+l[k].length≤9223372036854775807:=(by have:=HT.out;omega);generalize tot (l.take k)=T at*;clear hp h1;go_wp2_with fail;go_round;(case rel=>exact⟨k+1,by omega,by go_num,by rw[HT.out];go_num⟩);case measure=>simp[intOf];omega
  ·have E:=Lh (show tot (l.take k)=tot l by rw[List.take_of_length_le (by omega)]);go_wp2_with fail;go_ret;exact⟨Qam (by rw[E.out,HL.out]),Hbb.out⟩
def Word.val (x:Word):Value:=.agg #[.string x.s,.string x.key,.int .i64 x.t,.int .i64 x.n]
def QaT (p:Nat→Bool)(l:List (List Word)):Bool:=l.any fun x=>p x.length
theorem anyLen_take (p:Nat→Bool)(l:List (List Word))(k:Nat)(h:k<l.length):QaT p (l.take (k+1))=(QaT p (l.take k)||p l[k].length):=by
 unfold QaT;rw[qT h,List.any_append];simp
theorem anyLen_hit (p:Nat→Bool)(l:List (List Word))(k:Nat)(h:k<l.length)(hp:p l[k].length=true):QaT p l=true:=by
 unfold QaT;rw[List.any_eq_true];exact⟨_,List.getElem_mem h,hp⟩
def IsIdx (p:Nat→Bool)(l:List (List Word))(w:World)(e:Ending)(w':World):Prop:=∃r:Int,e=.returned (.int .i64 r)∧decide (0≤r)=QaT p l∧w=w'
theorem indexFunc_any (A:Option Addr)(c n:Nat)(l:List (List Word))(f:FuncId)(p:Nat→Bool)(w:World)(hl:Sl w (fun b=>b<w.heap.size) A c l)(hn:l.length=n) (hcf:∀(w':World) (args:Array Value),(callFunc f args).run Tryz.prog w'=.ok (.enter f args) w') (hf:∀(Ap:Option Addr) (n cp:Nat) (w':World),n≤9223372036854775807→Calls Tryz.prog f #[.slice Ap n cp] w' fun e w''=>e=.returned (.bool (p n))∧w'=w''):
 Calls Tryz.prog 134 #[.slice A n c,.func (.func f) #[] #[]] w (IsIdx p l w):=by
 subst hn;have hlen:l.length≤9223372036854775807:=by have:=hl.1;have:=hl.2.1;unfold maxLen at this;omega
 have Hf:=Lh hf;have Hl:=Lh hl;clear hf hl;go_enter Tryz.func134,Tryz.ntmps134;go_wp2_with fail;go_loopw [5,8] (fun _ i wr=>∃k:Nat,k≤l.length∧i=.int .i64 k∧Hid (QaT p (l.take k)=false)∧wr=w) (fun _ i _=>l.length-(intOf i).toNat);(case atStart=>exact⟨0,Nat.zero_le _,rfl,rfl,rfl⟩);case round=>
  obtain⟨k,hk,rfl,hno,rfl⟩:=hrel;by_cases hlt:k<l.length
  ·obtain⟨b,o,Ap,cp,rfl,_,hbl,hc,hp⟩:=Qbw Hl.out hlt;have hkl:(k:Int)<(l.length:Int):=(by omega);have hk0:(0:Int)≤(k:Int):=(by omega);have HT:=Lh (anyLen_take p l k hlt);have HH:=Lh (anyLen_hit p l k hlt);have h2:l[k].length≤9223372036854775807:=(by have:=hp.1;have:=hp.2.1;unfold maxLen at this;omega);generalize l[k].length=q at*;clear hp;go_wp2_with fail;refine(Hf.out Ap q cp _ h2).mono ?_;rintro e w' ⟨rfl,rfl⟩;cases hp:p q
   ·have E:=Lh (show QaT p (l.take (k+1))=false by rw[HT.out,hno.out,hp];rfl);clear hp;go_wp2_with fail;go_roundw;(case rel=>exact⟨k+1,by omega,by go_num,E.out,by first|trivial|rfl⟩);case measure=>simp[intOf];omega
   ·have E:=Lh (HH.out hp);clear hp;go_wp2_with fail;go_ret;exact⟨k,rfl,by rw[E.out];exact decide_eq_true hk0,rfl⟩
  ·have E:=Lh (show QaT p l=false by have:=hno.out;rwa [List.take_of_length_le (by omega)] at this);go_wp2_with fail;go_ret;exact⟨-1,rfl,by rw[E.out];rfl,rfl⟩
theorem QbP (A:Option Addr)(c n:Nat)(l:List (List Word))(f:FuncId)(p:Nat→Bool)(w:World)(hl:Sl w (fun b=>b<w.heap.size) A c l)(hn:l.length=n) (hcf:∀(w':World) (args:Array Value),(callFunc f args).run Tryz.prog w'=.ok (.enter f args) w') (hf:∀(Ap:Option Addr) (n cp:Nat) (w':World),n≤9223372036854775807→Calls Tryz.prog f #[.slice Ap n cp] w' fun e w''=>e=.returned (.bool (p n))∧w'=w''):
 Calls Tryz.prog 86 #[.slice A n c,.func (.func f) #[] #[]] w fun e w'=>e=.returned (.bool (QaT p l))∧w=w':=by
 have Hi:=Lh (indexFunc_any A c n l f p w hl hn hcf hf);clear hl hf hcf;go_enter Tryz.func86,Tryz.ntmps86;go_wp2_with fail;refine Hi.out.mono ?_;rintro e w' ⟨r,rfl,hr,rfl⟩;have Hr:=Lh hr;clear hr;go_wp2_with fail;go_ret;exact⟨QaV Hr.out,rfl⟩
def Qd1 (n:Nat):Bool:=decide (500<n)
def Qci (n:Nat):Bool:=decide (n=0)
theorem long_any (Ap:Option Addr)(n cp:Nat)(w:World)(hn:n≤9223372036854775807):Calls Tryz.prog 87 #[.slice Ap n cp] w fun e w'=>e=.returned (.bool (Qd1 n))∧w=w':=by
 go_enter Tryz.func87,Tryz.ntmps87;go_wp2_with fail;go_ret;exact⟨QaV (by unfold Qd1;rw[decide_eq_decide];omega),rfl⟩
theorem empty_any (Ap:Option Addr)(n cp:Nat)(w:World)(_hn:n≤9223372036854775807):Calls Tryz.prog 88 #[.slice Ap n cp] w fun e w'=>e=.returned (.bool (Qci n))∧w=w':=by
 go_enter Tryz.func88,Tryz.ntmps88;go_wp2_with fail;go_ret;exact⟨QaV (by unfold Qci;rw[Bool.eq_iff_iff];simp),rfl⟩
def badW (x:Word):Bool:= !QaM x.s||(decide (x.key≠⟨#[]⟩)&& !QaM x.key)
def QbS (np nn i:Nat)(notes:Int)(x:Word):Int × Int:=
 if badW x=true then(7,notes) else if x.t≠0∧x.t≠1 then(5,notes)
 else if x.n=0 then(0,notes) else if np≤i∨x.n≠notes+1∨(nn:Int)<notes+1 then(5,notes+1) else(0,notes+1)
def QaI (np nn i:Nat):Int→List Word→Int × Int
 |notes,[]=>(0,notes)
 |notes,x::r=>if(QbS np nn i notes x).1=0 then QaI np nn i (QbS np nn i notes x).2 r else QbS np nn i notes x
def Qbs (np nn:Nat):Nat→Int→List (List Word)→Int × Int
 |_,notes,[]=>(0,notes)
 |i,notes,p::r=>if(QaI np nn i notes p).1=0 then Qbs np nn (i+1) (QaI np nn i notes p).2 r else QaI np nn i notes p
def endP (nn:Nat)(r:Int × Int):Int:=if r.1≠0 then r.1 else if r.2≠nn then 3 else 0
def QdZ (a b:List (List Word)):Int:=
 if 100<a.length∨100<b.length∨QaT Qd1 (a++b)=true then 2 else if QaT Qci (a++b)=true then 1 else endP b.length (Qbs a.length b.length 0 0 (a++b))
theorem scanW_ok {np nn i:Nat}{notes n':Int}{p:List Word}{j:Nat}(hj:j<p.length)(h:QbS np nn i notes p[j]=(0,n')):QaI np nn i notes (p.drop j)=QaI np nn i n' (p.drop (j+1)):=by
 rw[List.drop_eq_getElem_cons hj,QaI,h];simp
theorem scanW_err {np nn i:Nat}{notes n' e:Int}{p:List Word}{j:Nat}(hj:j<p.length)(h:QbS np nn i notes p[j]=(e,n'))(he:e≠0):(QaI np nn i notes (p.drop j))=(e,n'):=by
 rw[List.drop_eq_getElem_cons hj,QaI,h];simp[he]
theorem scanP_ok {np nn i:Nat}{notes n':Int}{l:List (List Word)}(hi:i<l.length)(h:QaI np nn i notes l[i]=(0,n')):Qbs np nn i notes (l.drop i)=Qbs np nn (i+1) n' (l.drop (i+1)):=by
 rw[List.drop_eq_getElem_cons hi,Qbs,h];simp
theorem scanP_err {np nn i:Nat}{notes n' e:Int}{l:List (List Word)}(hi:i<l.length)(h:QaI np nn i notes l[i]=(e,n'))(he:e≠0):Qbs np nn i notes (l.drop i)=(e,n'):=by
 rw[List.drop_eq_getElem_cons hi,Qbs,h];simp[he]
theorem step_bad {np nn i:Nat}{notes:Int}{x:Word}(h:badW x=true):QbS np nn i notes x=(7,notes):=by unfold QbS;rw[if_pos h]
theorem step_tab {np nn i:Nat}{notes:Int}{x:Word}(h:badW x=false)(ht:x.t≠0∧x.t≠1):QbS np nn i notes x=(5,notes):=by unfold QbS;rw[if_neg (by rw[h];simp),if_pos ht]
theorem Qb9 {np nn i:Nat}{notes:Int}{x:Word}(h:badW x=false)(ht:x.t=0∨x.t=1)(hn:x.n=0):QbS np nn i notes x=(0,notes):=by unfold QbS;rw[if_neg (by rw[h];simp),if_neg (by omega),if_pos hn]
theorem QdA {np nn i:Nat}{notes:Int}{x:Word}(h:badW x=false)(ht:x.t=0∨x.t=1)(hn:x.n≠0)(hh:¬(np≤i∨x.n≠notes+1∨(nn:Int)<notes+1)):QbS np nn i notes x=(0,notes+1):=by unfold QbS;rw[if_neg (by rw[h];simp),if_neg (by omega),if_neg hn,if_neg hh]
theorem step_far {np nn i:Nat}{notes:Int}{x:Word}(h:badW x=false)(ht:x.t=0∨x.t=1)(hn:x.n≠0)(hh:np≤i∨x.n≠notes+1∨(nn:Int)<notes+1):QbS np nn i notes x=(5,notes+1):=by unfold QbS;rw[if_neg (by rw[h];simp),if_neg (by omega),if_neg hn,if_pos hh]
theorem bad_s {x:Word}(h:QaM x.s=false):badW x=true:=by unfold badW;rw[h];rfl
theorem bad_key {x:Word}(h:x.key≠⟨#[]⟩)(hk:QaM x.key=false):badW x=true:=by unfold badW;rw[hk,decide_eq_true h];simp
theorem good_nokey {x:Word}(h:QaM x.s=true)(hk:x.key=⟨#[]⟩):badW x=false:=by unfold badW;rw[h,hk];rfl
theorem good_key {x:Word}(h:QaM x.s=true)(hk:QaM x.key=true):badW x=false:=by unfold badW;rw[h,hk];simp
end Go.Proofs.YtegaapiocihcpaaGreatDoor
namespace Go.Proofs.YtegaapiocihcpaaGreatDoor
/-! ## Lines -/
def Qa1 (ws:List Int)(m:Int):Int:=ws.foldl (fun s w=>s-(w+6)) (m+6)
def scanE (n:Nat):List Int→List (Int × Nat)→Int→Nat→Bool→Int × Nat→Int × Nat
 |[],_,_,_,_,cur=>cur
 |w::ws,r,s,j,first,cur=>
  if s-(w+6)<0 then cur
  else if j=n then(0,n)
  else if first=true∨(s-(w+6))*(s-(w+6))+(r.headD (0,0)).1≤cur.1 then scanE n ws r.tail (s-(w+6)) (j+1) false ((s-(w+6))*(s-(w+6))+(r.headD (0,0)).1,j)
  else scanE n ws r.tail (s-(w+6)) (j+1) false cur
def bestL (ws:List Int)(m:Int):Nat→List (Int × Nat)
 |0=>[(0,0)]
 |k+1=>scanE ws.length (ws.drop (ws.length-(k+1))) (bestL ws m k) (m+6) (ws.length-(k+1)+1) true (0,0)::bestL ws m k
def chainE (es:List Nat)(n:Nat):Nat→Nat→List Nat
 |0,_=>[]
 |f+1,i=>if i<n then es.getD i 0::chainE es n f (es.getD i 0) else[]
def endsP (ws:List Int)(m:Int):List Nat:=chainE ((bestL ws m ws.length).map (·.2)) ws.length ws.length 0
def QdL (ws:List Int)(m:Int)(last:Bool):List Int:=
 if ws.length≤1 then[] else if last=true then List.replicate (ws.length-1) 6
 else(List.range (ws.length-1)).map fun(i:Nat)=>6+(Qa1 ws m).tdiv ((ws.length-1:Nat):Int)+if(i:Int)<(Qa1 ws m).tmod ((ws.length-1:Nat):Int) then 1 else 0
structure LineP where
 fr:Int
 un:Int
 gaps:List Int
 notes:List Int
deriving DecidableEq
def Qdi {α:Type}(l:List α)(i j:Nat):List α:=(l.take j).drop i
def QaA (l:List Word):List Int:=(l.filter fun x=>decide (x.n≠0)).map fun x=>x.n-1
def Qan (ws:List Word)(wd:List Int)(m first:Int):Nat→List Nat→List LineP
 |_,[]=>[]
 |i,e::es=>⟨first+i,first+e,QdL (Qdi wd i e) m (decide (es=[])),QaA (Qdi ws i e)⟩::Qan ws wd m first e es
def Qad (ws:List Word):List Int:=ws.map fun x=>Qaq x.s
def QdN (ws:List Word)(first m:Int):List LineP:=Qan ws (Qad ws) m first 0 (endsP (Qad ws) m)
def Qar (m:Int):Int→List (List Word)→List (List LineP)
 |_,[]=>[]
 |first,p::ps=>QdN p first m::Qar m (first+p.length) ps
def QaL (a:List (List Word))(m:Int):List LineP:=(Qar m 0 a).flatten
def Qal (a b:List (List Word))(m:Int):List (List LineP):=Qar m (tot a:Nat) b
def Qbf (a b:List (List Word))(m:Int):Int:=if QdZ a b≠0 then QdZ a b else if 500≤m∧m≤2000 then 0 else 5
/-! ## Pages -/
structure PageP where
 num:Int
 suf:Int
 entry:Int
 ver:Int
 body:List LineP
 notes:List LineP
deriving DecidableEq
def Qab (notes:List (List LineP))(x:LineP):List LineP:=x.notes.flatMap fun n=>notes.getD n.toNat []
def Qcc (h lines shown:Nat):Int:=(h:Int)-lines-shown-(min shown 1:Nat)
def Qce (h lines shown queue:Nat)(x:LineP):Bool:=
 if x.notes=[] then decide (0<Qcc h lines shown) else decide (shown=queue)&&decide (3-((min shown 1:Nat):Int)≤Qcc h lines shown)
def fillP (notes:List (List LineP))(h:Nat):List LineP→Nat→Nat→List LineP→Nat × Nat × List LineP
 |[],lines,shown,queue=>(lines,shown,queue)
 |x::body,lines,shown,queue=>
  if Qce h lines shown queue.length x=true then
   fillP notes h body (lines+1) (if shown<(queue++Qab notes x).length then shown+min ((queue++Qab notes x).length-shown) (h-(lines+1)-shown-1) else shown) (queue++Qab notes x)
  else(lines,shown,queue)
def setPages (notes:List (List LineP))(h:Nat):Nat→List LineP→List LineP→List PageP
 |0,_,_=>[]
 |f+1,body,queue=>
  if body=[]∧queue=[] then[]
  else
   let r:=fillP notes h body 0 (min queue.length (h-1)) queue
   ⟨0,0,0,0,body.take r.1,r.2.2.take r.2.1⟩::setPages notes h f (body.drop r.1) (r.2.2.drop r.2.1)
def Qbc (n:Nat):Int→List Int→Option Int
 |next,[]=>some next
 |next,k::ks=>if k≠next∨(n:Int)≤k then none else Qbc n (next+1) ks
def QaX (body:List LineP)(notes:List (List LineP))(h:Int):Int:=
 if h<4∨100<h then 5 else if notes.any (fun l=>decide (l=[]))=true then 1
 else match Qbc notes.length 0 (body.flatMap (·.notes)) with
  |none=>12
  |some k=>if k<notes.length then 3 else 0
def Qaj (body:List LineP)(notes:List (List LineP)):Nat:=(body.map fun x=>1+(Qab notes x).length).sum
def Qay (a b:List (List Word))(m:Int)(h:Nat):List PageP:=
 setPages (Qal a b m) h (Qaj (QaL a m) (Qal a b m)) (QaL a m) []
def textE (a b:List (List Word))(m h:Int):Int:=if Qbf a b m≠0 then Qbf a b m else QaX (QaL a m) (Qal a b m) h
/-! ## Books -/
structure TextP where
 a:List (List Word)
 b:List (List Word)
structure SectP where
 entry:Int
 frozen:Bool
 vers:List Int
 texts:List TextP
structure BookP where
 m:Int
 h:Int
 sects:List SectP
def QaS (entry ver num suf:Int):Nat→List PageP→List PageP
 |_,[]=>[]
 |k,p::ps=>{p with num:=if k=0 then num+1 else num,suf:=if k=0 then suf else suf+1,entry:=entry,ver:=ver}::QaS entry ver (if k=0 then num+1 else num) (if k=0 then suf else suf+1) k ps
/-! ## Where lines end -/
theorem QdQ (n:Nat):∀(ws:List Int) (r:List (Int × Nat)) (s:Int) (j:Nat) (first:Bool) (cur:Int × Nat),j+ws.length≤n+1→ scanE n ws r s j first cur=cur∨(j≤(scanE n ws r s j first cur).2∧(scanE n ws r s j first cur).2≤n)
 |[],_,_,_,_,_,_=>.inl rfl
 |w::ws,r,s,j,first,cur,h=>by
  rw[qC] at h;rw[scanE];split
  ·exact .inl rfl
  ·split
   ·rename_i hj;right;simp only;omega
   ·split
    ·rcases QdQ n ws r.tail (s-(w+6)) (j+1) false ((s-(w+6))*(s-(w+6))+(r.headD (0,0)).1,j) (by omega) with h1|h1
     ·right;rw[h1];simp only;omega
     ·right;omega
    ·rcases QdQ n ws r.tail (s-(w+6)) (j+1) false cur (by omega) with h1|h1
     ·left;exact h1
     ·right;omega
theorem scanE_first (n:Nat)(w:Int)(ws:List Int)(r:List (Int × Nat))(s:Int)(j:Nat)(cur:Int × Nat)(h:j+(ws.length+1)≤n+1)(hs:0≤s-(w+6)):
 j≤(scanE n (w::ws) r s j true cur).2∧(scanE n (w::ws) r s j true cur).2≤n:=by
 rw[scanE,if_neg (by omega)];split
 ·simp only;omega
 ·rw[if_pos (.inl rfl)];rcases QdQ n ws r.tail (s-(w+6)) (j+1) false ((s-(w+6))*(s-(w+6))+(r.headD (0,0)).1,j) (by omega) with h1|h1
  ·rw[h1];simp only;omega
  ·omega
theorem Qbb (ws:List Int)(m:Int):∀k,(bestL ws m k).length=k+1
 |0=>rfl
 |k+1=>by rw[bestL,qC,Qbb ws m k]
theorem bestL_get (ws:List Int)(m:Int):∀k i,i<k→(bestL ws m k)[i]? =some (scanE ws.length (ws.drop (ws.length-(k-i))) (bestL ws m (k-i-1)) (m+6) (ws.length-(k-i)+1) true (0,0))
 |0,_,h=>absurd h (Nat.not_lt_zero _)
 |k+1,0,_=>by rw[bestL];rfl
 |k+1,i+1,h=>by
  rw[bestL,List.getElem?_cons_succ,bestL_get ws m k i (by omega)];have e1:k+1-(i+1)=k-i:=(by omega);rw[e1]
def bestAt (ws:List Int)(m:Int)(i:Nat):Int × Nat:=(bestL ws m ws.length).getD i (0,0)
theorem bestAt_eq (ws:List Int)(m:Int)(i:Nat)(h:i<ws.length):bestAt ws m i=scanE ws.length (ws.drop i) (bestL ws m (ws.length-i-1)) (m+6) (i+1) true (0,0):=by
 unfold bestAt;rw[List.getD_eq_getElem?_getD,bestL_get ws m _ i h];have e1:ws.length-(ws.length-i)=i:=by omega
 rw[e1];rfl
structure Reg (ws:List Int)(m:Int):Prop where
 n:ws.length≤500
 lo:500≤m
 hi:m≤2000
 w:∀x∈ws,1≤x∧x≤480
theorem bestAt_end {ws:List Int}{m:Int}(hr:Reg ws m)(i:Nat)(h:i<ws.length):i<(bestAt ws m i).2∧(bestAt ws m i).2≤ws.length:=by
 rw[bestAt_eq ws m i h];obtain⟨w,hw⟩:∃w,ws[i]=w:=⟨_,rfl⟩;have hwm:=hr.w ws[i] (List.getElem_mem h);rw[List.drop_eq_getElem_cons h,hw] at*;have:=hr.lo;have h2:=scanE_first ws.length w (ws.drop (i+1)) (bestL ws m (ws.length-i-1)) (m+6) (i+1) (0,0) (by rw[List.length_drop];omega) (by omega);omega
theorem QcE (es:List Nat)(n:Nat)(he:∀i,i<n→i<es.getD i 0∧es.getD i 0≤n):∀f i,n-i≤f→i≤n→ (∀e∈chainE es n f i,i<e∧e≤n)∧(chainE es n f i).Pairwise (· < ·)∧(i<n→(chainE es n f i).getLast? =some n)∧(chainE es n f i=[]↔i=n)∧(chainE es n f i).length≤n-i
 |0,i,hf,hi=>by
  have:i=n:=(by omega);subst this;simp[chainE]
 |f+1,i,hf,hi=>by
  rw[chainE];by_cases h:i<n
  ·rw[if_pos h];obtain⟨h1,h2⟩:=he i h;obtain⟨a,b,c,d,e⟩:=QcE es n he f (es.getD i 0) (by omega) h2;refine⟨?_,?_,fun _=>?_,?_,?_⟩
   ·intro x hx;rcases List.mem_cons.1 hx with rfl|hx
    ·exact⟨h1,h2⟩
    ·have:=a x hx;omega
   ·exact List.pairwise_cons.2 ⟨fun x hx=>(a x hx).1,b⟩
   ·by_cases hn:es.getD i 0<n
    ·rw[List.getLast?_cons,c hn];rfl
    ·have he:es.getD i 0=n:=by omega
     have hd:=d.2 he;rw[hd,he];rfl
   ·constructor
    ·intro hh;cases hh
    ·intro hh;omega
   ·rw[qC];omega
  ·rw[if_neg h];have:i=n:=(by omega);subst this;simp
/-! ## How pages are filled -/
def QbB (h lines shown queue:Nat):Nat:=if shown<queue then shown+min (queue-shown) (h-(lines+1)-shown-1) else shown
theorem Qef {h lines shown queue:Nat}(h1:shown≤queue):shown≤QbB h lines shown queue∧QbB h lines shown queue≤queue:=by
 unfold QbB;split<;>omega
theorem Qcb (notes:List (List LineP))(h:Nat)(x:LineP)(body:List LineP)(lines shown:Nat)(queue:List LineP):
 fillP notes h (x::body) lines shown queue=if Qce h lines shown queue.length x=true then fillP notes h body (lines+1) (QbB h lines shown (queue++Qab notes x).length) (queue++Qab notes x) else(lines,shown,queue):=rfl
theorem Qbm (notes:List (List LineP))(h:Nat):∀(body:List LineP) (lines shown:Nat) (queue:List LineP),shown≤queue.length→ ∃k,k≤body.length∧(fillP notes h body lines shown queue).1=lines+k∧shown≤(fillP notes h body lines shown queue).2.1∧(fillP notes h body lines shown queue).2.2=queue++(body.take k).flatMap (Qab notes)∧ (fillP notes h body lines shown queue).2.1≤(fillP notes h body lines shown queue).2.2.length
 |[],lines,shown,queue,hs=>⟨0,Nat.le_refl _,rfl,Nat.le_refl _,by simp[fillP],hs⟩
 |x::body,lines,shown,queue,hs=>by
  rw[Qcb];split
  ·obtain⟨h1,h2⟩:=Qef (h:=h) (lines:=lines) (show shown≤(queue++Qab notes x).length by rw[qA];omega);obtain⟨k,a,b,c,d,e⟩:=Qbm notes h body (lines+1) _ (queue++Qab notes x) h2;refine⟨k+1,by rw[qC];omega,by rw[b];omega,by omega,?_,e⟩;rw[d,List.take_succ_cons,List.flatMap_cons,List.append_assoc]
  ·exact⟨0,Nat.zero_le _,rfl,Nat.le_refl _,by simp,hs⟩
theorem fillP_takes (notes:List (List LineP))(h:Nat)(h4:4≤h)(body queue:List LineP)(hn:¬(body=[]∧queue=[])):
 1≤(fillP notes h body 0 (min queue.length (h-1)) queue).1+(fillP notes h body 0 (min queue.length (h-1)) queue).2.1:=by
 obtain⟨k,a,b,c,d,e⟩:=Qbm notes h body 0 (min queue.length (h-1)) queue (Nat.min_le_left _ _);by_cases hq:queue=[]
 ·subst hq;cases body with
  |nil=>exact absurd ⟨rfl,rfl⟩ hn
  |cons x body=>
   have hf:Qce h 0 (min ([]:List LineP).length (h-1)) ([]:List LineP).length x=true:=by
    unfold Qce Qcc;split
    ·simp;omega
    ·simp;omega
   rw[Qcb,if_pos hf];obtain⟨h1,h2⟩:=Qef (h:=h) (lines:=0) (show min ([]:List LineP).length (h-1)≤([]++Qab notes x).length by simp);obtain⟨k,a,b,c,d,e⟩:=Qbm notes h body (0+1) _ ([]++Qab notes x) h2;omega
 ·have:0<queue.length:=List.length_pos_iff.2 hq;omega
theorem Qbh (notes:List (List LineP))(body:List LineP)(k:Nat)(hk:k≤body.length):
 Qaj (body.drop k) notes+k+((body.take k).flatMap (Qab notes)).length=Qaj body notes:=by
 induction body generalizing k with
 |nil=>simp at hk;subst hk;rfl
 |cons x body ih=>
  cases k with
  |zero=>simp
  |succ k=>
   have:=ih k (by rw[qC] at hk;omega);simp only[List.drop_succ_cons,List.take_succ_cons,List.flatMap_cons,qA,Qaj,List.map_cons,List.sum_cons] at*;omega
theorem page_less (notes:List (List LineP))(h:Nat)(h4:4≤h)(body queue:List LineP)(hn:¬(body=[]∧queue=[])):
 let r:=fillP notes h body 0 (min queue.length (h-1)) queue
 Qaj (body.drop r.1) notes+(r.2.2.drop r.2.1).length+1≤Qaj body notes+queue.length:=by
 obtain⟨k,a,b,c,d,e⟩:=Qbm notes h body 0 (min queue.length (h-1)) queue (Nat.min_le_left _ _);have h1:=fillP_takes notes h h4 body queue hn;have h2:=Qbh notes body k a;rw[Nat.zero_add] at b;intro r;show Qaj (body.drop (fillP notes h body 0 (min queue.length (h-1)) queue).1) notes+((fillP notes h body 0 (min queue.length (h-1)) queue).2.2.drop (fillP notes h body 0 (min queue.length (h-1)) queue).2.1).length+1≤_;have h3:(fillP notes h body 0 (min queue.length (h-1)) queue).2.2.length=queue.length+((body.take k).flatMap (Qab notes)).length:=by rw[d,qA]
 generalize fillP notes h body 0 (min queue.length (h-1)) queue=F at*;rw[b,List.length_drop];omega
/-! ## Costs are small -/
theorem Qc3 (n:Nat)(B:Int)(hB:0≤B):∀(ws:List Int) (r:List (Int × Nat)) (s:Int) (j:Nat) (first:Bool) (cur:Int × Nat),(∀w∈ws,1≤w)→s≤2006→(∀x∈r,0≤x.1∧x.1≤B)→0≤cur.1→cur.1≤B+4100000→ 0≤(scanE n ws r s j first cur).1∧(scanE n ws r s j first cur).1≤B+4100000
 |[],_,_,_,_,_,_,_,_,h1,h2=>⟨h1,h2⟩
 |w::ws,r,s,j,first,cur,hw,hs,hr,h1,h2=>by
  have hw1:=hw w (by simp);have hr1:0≤(r.headD (0,0)).1∧(r.headD (0,0)).1≤B:=by
   cases r with
   |nil=>exact⟨Int.le_refl _,hB⟩
   |cons x r=>exact hr x (by simp)
  have ht:∀x∈r.tail,0≤x.1∧x.1≤B:=fun x hx=>hr x (List.mem_of_mem_tail hx)
  rw[scanE];split
  ·exact⟨h1,h2⟩
  ·rename_i hs0;have hq:(s-(w+6))*(s-(w+6))≤2006*2006:=Int.mul_le_mul (by omega) (by omega) (by omega) (by omega);have hq0:0≤(s-(w+6))*(s-(w+6)):=Int.mul_nonneg (by omega) (by omega);split
   ·simp only;omega
   ·split
    ·exact Qc3 n B hB ws _ _ _ _ _ (fun x hx=>hw x (by simp[hx])) (by omega) ht (by simp only;omega) (by simp only;omega)
    ·exact Qc3 n B hB ws _ _ _ _ _ (fun x hx=>hw x (by simp[hx])) (by omega) ht h1 h2
theorem bestL_cost {ws:List Int}{m:Int}(hr:Reg ws m):∀k,∀x∈bestL ws m k,0≤x.1∧x.1≤4100000*(k:Int)
 |0,x,hx=>by
  obtain rfl:=List.mem_singleton.1 hx;exact⟨Int.le_refl _,Int.le_refl _⟩
 |k+1,x,hx=>by
  have ih:=bestL_cost hr k;rcases List.mem_cons.1 hx with rfl|hx
  ·have:=Qc3 ws.length (4100000*(k:Int)) (by omega) (ws.drop (ws.length-(k+1))) (bestL ws m k) (m+6) (ws.length-(k+1)+1) true (0,0) (fun w hw=>(hr.w w (List.mem_of_mem_drop hw)).1) (by have:=hr.hi;omega) ih (by simp) (by simp only;omega);have e:(4100000*((k+1:Nat):Int))=4100000*(k:Int)+4100000:=(by omega);rw[e];exact this
  ·have:=ih x hx;omega
/-! ## The rows of costs and of ends -/
theorem scanE_step (n:Nat)(w:Int)(ws:List Int)(r:List (Int × Nat))(s:Int)(j:Nat)(first:Bool)(cur:Int × Nat)(h1:¬s-(w+6)<0)(h2:j≠n):
 scanE n (w::ws) r s j first cur=scanE n ws r.tail (s-(w+6)) (j+1) false (if first=true∨(s-(w+6))*(s-(w+6))+(r.headD (0,0)).1≤cur.1 then((s-(w+6))*(s-(w+6))+(r.headD (0,0)).1,j) else cur):=by
 rw[scanE,if_neg h1,if_neg h2];split<;>rfl
theorem scanE_neg (n:Nat)(w:Int)(ws:List Int)(r:List (Int × Nat))(s:Int)(j:Nat)(first:Bool)(cur:Int × Nat)(h1:s-(w+6)<0):scanE n (w::ws) r s j first cur=cur:=by rw[scanE,if_pos h1]
theorem scanE_last (n:Nat)(w:Int)(ws:List Int)(r:List (Int × Nat))(s:Int)(first:Bool)(cur:Int × Nat)(h1:¬s-(w+6)<0):scanE n (w::ws) r s n first cur=(0,n):=by rw[scanE,if_neg h1,if_pos rfl]
end Go.Proofs.YtegaapiocihcpaaGreatDoor
namespace Go.Proofs.YtegaapiocihcpaaGreatDoor
open Go.RowKit
instance:Rep LineP where
 size:=4
 R w S cs x:=∃va vb,cs=[.int .i64 x.fr,.int .i64 x.un,va,vb]∧Rep.R w S [va] x.gaps∧Rep.R w S [vb] x.notes
 len:=by rintro w S cs s ⟨va,vb,rfl,_⟩;rfl
 one:=by
  rintro w S cs s ⟨va,vb,rfl,ha,hb⟩ u hu;have h1:=Rep.one ha va (by simp);have h2:=Rep.one hb vb (by simp);simp at hu;rcases hu with rfl|rfl|rfl|rfl
  ·rfl
  ·rfl
  ·exact h1
  ·exact h2
 keep:=by rintro w w' S cs s ⟨va,vb,rfl,ha,hb⟩ hk;exact⟨va,vb,rfl,Rep.keep ha hk,Rep.keep hb hk⟩
 mono:=by rintro w S S' cs s ⟨va,vb,rfl,ha,hb⟩ hk;exact⟨va,vb,rfl,Rep.mono ha hk,Rep.mono hb hk⟩
instance:Rep PageP where
 size:=6
 R w S cs x:=∃va vb,cs=[.int .i64 x.num,.int .i64 x.suf,.int .i64 x.entry,.int .i64 x.ver,va,vb]∧Rep.R w S [va] x.body∧Rep.R w S [vb] x.notes
 len:=by rintro w S cs s ⟨va,vb,rfl,_⟩;rfl
 one:=by
  rintro w S cs s ⟨va,vb,rfl,ha,hb⟩ u hu;have h1:=Rep.one ha va (by simp);have h2:=Rep.one hb vb (by simp);simp at hu;rcases hu with rfl|rfl|rfl|rfl|rfl|rfl
  ·rfl
  ·rfl
  ·rfl
  ·rfl
  ·exact h1
  ·exact h2
 keep:=by rintro w w' S cs s ⟨va,vb,rfl,ha,hb⟩ hk;exact⟨va,vb,rfl,Rep.keep ha hk,Rep.keep hb hk⟩
 mono:=by rintro w S S' cs s ⟨va,vb,rfl,ha,hb⟩ hk;exact⟨va,vb,rfl,Rep.mono ha hk,Rep.mono hb hk⟩
instance:Rep TextP where
 size:=2
 R w S cs x:=∃va vb,cs=[va,vb]∧Rep.R w S [va] x.a∧Rep.R w S [vb] x.b
 len:=by rintro w S cs s ⟨va,vb,rfl,_⟩;rfl
 one:=by
  rintro w S cs s ⟨va,vb,rfl,ha,hb⟩ u hu;have h1:=Rep.one ha va (by simp);have h2:=Rep.one hb vb (by simp);simp at hu;rcases hu with rfl|rfl
  ·exact h1
  ·exact h2
 keep:=by rintro w w' S cs s ⟨va,vb,rfl,ha,hb⟩ hk;exact⟨va,vb,rfl,Rep.keep ha hk,Rep.keep hb hk⟩
 mono:=by rintro w S S' cs s ⟨va,vb,rfl,ha,hb⟩ hk;exact⟨va,vb,rfl,Rep.mono ha hk,Rep.mono hb hk⟩
instance:Rep SectP where
 size:=4
 R w S cs x:=∃va vb,cs=[.int .i64 x.entry,.bool x.frozen,va,vb]∧I64 x.entry∧Rep.R w S [va] x.vers∧Rep.R w S [vb] x.texts
 len:=by rintro w S cs s ⟨va,vb,rfl,_⟩;rfl
 one:=by
  rintro w S cs s ⟨va,vb,rfl,_,ha,hb⟩ u hu;have h1:=Rep.one ha va (by simp);have h2:=Rep.one hb vb (by simp);simp at hu;rcases hu with rfl|rfl|rfl|rfl
  ·rfl
  ·rfl
  ·exact h1
  ·exact h2
 keep:=by rintro w w' S cs s ⟨va,vb,rfl,hi,ha,hb⟩ hk;exact⟨va,vb,rfl,hi,Rep.keep ha hk,Rep.keep hb hk⟩
 mono:=by rintro w S S' cs s ⟨va,vb,rfl,hi,ha,hb⟩ hk;exact⟨va,vb,rfl,hi,Rep.mono ha hk,Rep.mono hb hk⟩
def labE (n s:Int):Int:=if n<1∨16384<n∨s<0∨16384<s then 5 else 0
set_option maxRecDepth 100000 in
theorem labCheck_any (n s:Int)(w:World):Calls Tryz.prog 114 #[.agg #[.int .i64 n,.int .i64 s]] w fun e w'=>e=.returned (.int .i64 (labE n s))∧Below w.heap.size w w':=by
 have HB:Hid (Below w.heap.size w (w.alloc (.cells #[.int .i64 n,.int .i64 s] 40))):=Lh (bR.alloc nL _);unfold labE;by_cases h1:n<1
 ·rw[if_pos (.inl h1)];go_enter Tryz.func114,Tryz.ntmps114;go_wp2_with fail;go_ret;exact⟨rfl,HB.out⟩
 ·by_cases h2:16384<n
  ·rw[if_pos (.inr (.inl h2))];go_enter Tryz.func114,Tryz.ntmps114;go_wp2_with fail;go_ret;exact⟨rfl,HB.out⟩
  ·by_cases h3:s<0
   ·rw[if_pos (.inr (.inr (.inl h3)))];go_enter Tryz.func114,Tryz.ntmps114;go_wp2_with fail;go_ret;exact⟨rfl,HB.out⟩
   ·by_cases h4:16384<s
    ·rw[if_pos (.inr (.inr (.inr h4)))];go_enter Tryz.func114,Tryz.ntmps114;go_wp2_with fail;go_ret;exact⟨rfl,HB.out⟩
    ·rw[if_neg (by omega)];go_enter Tryz.func114,Tryz.ntmps114;go_wp2_with fail;go_ret;exact⟨rfl,HB.out⟩
theorem QbF (n lo hi:Int)(w:World):Calls Tryz.prog 91 #[.int .i64 n,.int .i64 lo,.int .i64 hi] w fun e w'=>e=.returned (.bool (decide (lo≤n∧n≤hi)))∧w=w':=by
 by_cases h1:lo≤n
 ·by_cases h2:n≤hi
  ·rw[decide_eq_true ⟨h1,h2⟩];go_enter Tryz.func91,Tryz.ntmps91;go_wp2_with fail;go_ret;exact⟨rfl,rfl⟩
  ·rw[decide_eq_false (fun h=>h2 h.2)];go_enter Tryz.func91,Tryz.ntmps91;go_wp2_with fail;go_ret;exact⟨rfl,rfl⟩
 ·rw[decide_eq_false (fun h=>h1 h.1)];go_enter Tryz.func91,Tryz.ntmps91;go_wp2_with fail;go_ret;exact⟨rfl,rfl⟩
theorem Qai {P:Program}{fn:Func}{p q:Tmp}{ty:TypeId}(h:fn.results=#[.cell p ty,.tmp q])(tmps:Array Value)(w:World)(g:Nat)(t:TypeId)(cs:Array Value)(fr:Nat × Nat)(d:TypeDesc) (hp:tmps.getD p undef=.pointer (some ⟨g,0,none⟩)) (hg:w.heap[g]? =some (.cells cs t fr)) (hu:P.underlying ty=some d) (hd:(match d with|.struct _|.array _ _=>true|_=>false)=true) (hi:(P.info? ty).map (·.size)=some cs.size):
 (results fn tmps).run P w=.ok (.tuple #[.agg cs,tmps.getD q undef]) w:=by
 have hp':tmps[p]?.getD undef=.pointer (some ⟨g,0,none⟩):=by simpa using hp
 simp[results,h,hp',asAddr,run_loadVar_row w g t ty cs fr d hg hu hd hi]
end Go.Proofs.YtegaapiocihcpaaGreatDoor
namespace Go.Proofs
open Go.Shelf
def Tryz.lays156_ren:Go.Shelf.Ren:=⟨fun|156=>115|165=>165|166=>166|169=>167|240=>194|241=>195|276=>215|277=>216|n=>n,fun|31=>44|9=>9|3=>3|4=>4|0=>0|20=>20|72=>226|76=>229|70=>224|37=>158|75=>228|127=>249|164=>266|5=>5|80=>231|n=>n,fun|n=>n⟩
theorem Tryz.lays156:Go.Proofs.Lays.n156 Tryz.prog Tryz.lays156_ren:={
 mixed:=by kernel_rfl
 f156:=Tryz.func115.trans (congrArg some (by kernel_rfl))
 f165:=Tryz.func165.trans (congrArg some (by kernel_rfl))
 f166:=Tryz.func166.trans (congrArg some (by kernel_rfl))
 f169:=Tryz.func167.trans (congrArg some (by kernel_rfl))
 f240:=Tryz.func194.trans (congrArg some (by kernel_rfl))
 f241:=Tryz.func195.trans (congrArg some (by kernel_rfl))
 f276:=Tryz.func215.trans (congrArg some (by kernel_rfl))
 f277:=Tryz.func216.trans (congrArg some (by kernel_rfl))
 t0:=Tryz.underlying0
 a0:=Tryz.isAgg0
 z0:=Tryz.sizeOf0
 v0:=Tryz.zeroValue0
 t3:=Tryz.underlying3
 a3:=Tryz.isAgg3
 z3:=Tryz.sizeOf3
 v3:=Tryz.zeroValue3
 t4:=Tryz.underlying4
 a4:=Tryz.isAgg4
 z4:=Tryz.sizeOf4
 v4:=Tryz.zeroValue4
 t9:=Tryz.underlying9
 a9:=Tryz.isAgg9
 z9:=Tryz.sizeOf9
 v9:=Tryz.zeroValue9
 t20:=Tryz.underlying20
 a20:=Tryz.isAgg20
 z20:=Tryz.sizeOf20
 v20:=Tryz.zeroValue20
 t31:=Tryz.underlying44
 a31:=Tryz.isAgg44
 z31:=Tryz.sizeOf44
 v31:=Tryz.zeroValue44
 t37:=Tryz.underlying158
 a37:=Tryz.isAgg158
 z37:=Tryz.sizeOf158
 v37:=Tryz.zeroValue158
 t70:=Tryz.underlying224
 a70:=Tryz.isAgg224
 z70:=Tryz.sizeOf224
 v70:=Tryz.zeroValue224
 t72:=Tryz.underlying226
 a72:=Tryz.isAgg226
 z72:=Tryz.sizeOf226
 v72:=Tryz.zeroValue226
 t75:=Tryz.underlying228
 a75:=Tryz.isAgg228
 z75:=Tryz.sizeOf228
 v75:=Tryz.zeroValue228
 t76:=Tryz.underlying229
 a76:=Tryz.isAgg229
 z76:=Tryz.sizeOf229
 v76:=Tryz.zeroValue229
 t127:=Tryz.underlying249
 a127:=Tryz.isAgg249
 z127:=Tryz.sizeOf249
 v127:=Tryz.zeroValue249
 t164:=Tryz.underlying266
 a164:=Tryz.isAgg266
 z164:=Tryz.sizeOf266
 v164:=Tryz.zeroValue266}
theorem Tryz.Builder_Extra_156:Builder.Extra Tryz.prog Tryz.lays156_ren:={
 sizeBuilder:=by kernel_rfl
 liesBuilder:=by kernel_rfl
 t5:=Tryz.underlying5
 a5:=Tryz.isAgg5
 z5:=Tryz.sizeOf5
 v5:=Tryz.zeroValue5
 infoByte:=by kernel_rfl
 cellsByte:=by kernel_rfl
 sizeByte:=by kernel_rfl
 neB5:=by decide}
open Go.RowKit in
theorem Tryz.strings_Join (bk o c:Nat)(xs:List ByteArray)(sep:ByteArray)(w:World)(hcells:∀(j:Nat) x,xs[j]? =some x→w.cell? ⟨bk,o+j,none⟩=some (.string x))(hbk:bk<w.heap.size)(hN:xs.length≤140737488355328)(hcap:xs.length≤c)(hlen:(Lib.join (xs.map (·.data.toList)) sep.data.toList).length≤140737488355328):
 Calls Tryz.prog 115 #[.slice (some ⟨bk,o,none⟩) xs.length c,.string sep] w fun e w'=>e=.returned (.string ⟨(Lib.join (xs.map (·.data.toList)) sep.data.toList).toArray⟩)∧Below w.heap.size w w':=Any.strings_Join Tryz.lays156 Tryz.Builder_Extra_156 bk o c xs sep w hcells hbk hN hcap hlen
def Tryz.laysM171_ren:Go.Shelf.Ren:=⟨fun|171=>75|243=>130|246=>174|283=>201|284=>202|285=>203|286=>204|129=>212|317=>219|318=>220|319=>221|320=>222|337=>225|338=>226|n=>n,fun|3=>3|9=>9|2=>2|4=>4|171=>252|0=>0|53=>201|37=>158|5=>5|173=>255|212=>272|51=>182|20=>20|213=>273|46=>184|232=>100|233=>276|n=>n,fun|17=>2|18=>4|19=>5|n=>n⟩
theorem Tryz.laysM171:Go.Proofs.LaysM.n171 Tryz.prog Tryz.laysM171_ren:={
 mixed:=by kernel_rfl
 f129:=Tryz.func212.trans (congrArg some (by kernel_rfl))
 f171:=Tryz.func75.trans (congrArg some (by kernel_rfl))
 f243:=Tryz.func130.trans (congrArg some (by kernel_rfl))
 f246:=Tryz.func174.trans (congrArg some (by kernel_rfl))
 f283:=Tryz.func201.trans (congrArg some (by kernel_rfl))
 f284:=Tryz.func202.trans (congrArg some (by kernel_rfl))
 f285:=Tryz.func203.trans (congrArg some (by kernel_rfl))
 f286:=Tryz.func204.trans (congrArg some (by kernel_rfl))
 f317:=Tryz.func219.trans (congrArg some (by kernel_rfl))
 f318:=Tryz.func220.trans (congrArg some (by kernel_rfl))
 f319:=Tryz.func221.trans (congrArg some (by kernel_rfl))
 f320:=Tryz.func222.trans (congrArg some (by kernel_rfl))
 f337:=Tryz.func225.trans (congrArg some (by kernel_rfl))
 f338:=Tryz.func226.trans (congrArg some (by kernel_rfl))
 t0:=Tryz.underlying0
 a0:=Tryz.isAgg0
 z0:=Tryz.sizeOf0
 v0:=Tryz.zeroValue0
 t2:=Tryz.underlying2
 a2:=Tryz.isAgg2
 z2:=Tryz.sizeOf2
 v2:=Tryz.zeroValue2
 t3:=Tryz.underlying3
 a3:=Tryz.isAgg3
 z3:=Tryz.sizeOf3
 v3:=Tryz.zeroValue3
 t4:=Tryz.underlying4
 a4:=Tryz.isAgg4
 z4:=Tryz.sizeOf4
 v4:=Tryz.zeroValue4
 t5:=Tryz.underlying5
 a5:=Tryz.isAgg5
 z5:=Tryz.sizeOf5
 v5:=Tryz.zeroValue5
 t9:=Tryz.underlying9
 a9:=Tryz.isAgg9
 z9:=Tryz.sizeOf9
 v9:=Tryz.zeroValue9
 t20:=Tryz.underlying20
 a20:=Tryz.isAgg20
 z20:=Tryz.sizeOf20
 v20:=Tryz.zeroValue20
 t37:=Tryz.underlying158
 a37:=Tryz.isAgg158
 z37:=Tryz.sizeOf158
 v37:=Tryz.zeroValue158
 t46:=Tryz.underlying184
 a46:=Tryz.isAgg184
 z46:=Tryz.sizeOf184
 v46:=Tryz.zeroValue184
 t51:=Tryz.underlying182
 a51:=Tryz.isAgg182
 z51:=Tryz.sizeOf182
 v51:=Tryz.zeroValue182
 t53:=Tryz.underlying201
 a53:=Tryz.isAgg201
 z53:=Tryz.sizeOf201
 v53:=Tryz.zeroValue201
 t171:=Tryz.underlying252
 a171:=Tryz.isAgg252
 z171:=Tryz.sizeOf252
 v171:=Tryz.zeroValue252
 t173:=Tryz.underlying255
 a173:=Tryz.isAgg255
 z173:=Tryz.sizeOf255
 v173:=Tryz.zeroValue255
 t212:=Tryz.underlying272
 a212:=Tryz.isAgg272
 z212:=Tryz.sizeOf272
 v212:=Tryz.zeroValue272
 t213:=Tryz.underlying273
 a213:=Tryz.isAgg273
 z213:=Tryz.sizeOf273
 t232:=Tryz.underlying100
 a232:=Tryz.isAgg100
 z232:=Tryz.sizeOf100
 v232:=Tryz.zeroValue100
 t233:=Tryz.underlying276
 a233:=Tryz.isAgg276
 z233:=Tryz.sizeOf276
 v233:=Tryz.zeroValue276
 g17:=by kernel_rfl
 g18:=by kernel_rfl
 g19:=by kernel_rfl
 i0:=by kernel_rfl
 i2:=by kernel_rfl
 i3:=by kernel_rfl
 i4:=by kernel_rfl
 i5:=by kernel_rfl
 i9:=by kernel_rfl
 i20:=by kernel_rfl
 i37:=by kernel_rfl
 i46:=by kernel_rfl
 i51:=by kernel_rfl
 i53:=by kernel_rfl
 i171:=by kernel_rfl
 i173:=by kernel_rfl
 i212:=by kernel_rfl
 i232:=by kernel_rfl
 i233:=by kernel_rfl
 m17:=by kernel_rfl
 m18:=by kernel_rfl
 m19:=by kernel_rfl}
open Go.RowKit Go.Sort Go.Lib in
theorem Tryz.strconv_Itoa (n:Int)(h0: -9223372036854775808≤n)(h1:n≤9223372036854775807)(w:World)(htab:Lib.TabIs Tryz.prog w "internal/strconv.uint64pow10" .u64 Lib.pow10Tab):
 Calls Tryz.prog 75 #[.int .i64 n] w fun e w'=>e=.returned (.string ⟨(Lib.itoa n).toArray⟩)∧∃k os,w'=grow (w.drewN k) os:=Any.strconv_Itoa Tryz.laysM171 n h0 h1 w htab
def Tryz.lays212_ren:Go.Shelf.Ren:=⟨fun|212=>175|263=>205|264=>206|n=>n,fun|46=>184|51=>182|146=>257|53=>201|148=>259|n=>n,fun|n=>n⟩
theorem Tryz.lays212:Go.Proofs.Lays.n212 Tryz.prog Tryz.lays212_ren:={
 mixed:=by kernel_rfl
 f212:=Tryz.func175.trans (congrArg some (by kernel_rfl))
 f263:=Tryz.func205.trans (congrArg some (by kernel_rfl))
 f264:=Tryz.func206.trans (congrArg some (by kernel_rfl))
 t46:=Tryz.underlying184
 a46:=Tryz.isAgg184
 z46:=Tryz.sizeOf184
 v46:=Tryz.zeroValue184
 t51:=Tryz.underlying182
 a51:=Tryz.isAgg182
 z51:=Tryz.sizeOf182
 v51:=Tryz.zeroValue182
 t53:=Tryz.underlying201
 a53:=Tryz.isAgg201
 z53:=Tryz.sizeOf201
 v53:=Tryz.zeroValue201
 t146:=Tryz.underlying257
 a146:=Tryz.isAgg257
 z146:=Tryz.sizeOf257
 v146:=Tryz.zeroValue257
 t148:=Tryz.underlying259
 a148:=Tryz.isAgg259
 z148:=Tryz.sizeOf259
 v148:=Tryz.zeroValue259}
open Go.RowKit Go.Lib in
theorem Tryz.bits_Mul (x y:Nat)(hx:x<18446744073709551616)(hy:y<18446744073709551616)(w:World):
 Calls Tryz.prog 175 #[.int .u64 x,.int .u64 y] w fun e w'=>e=.returned (.tuple #[.int .u64 ((x*y/18446744073709551616:Nat):Int),.int .u64 ((x*y%18446744073709551616:Nat):Int)])∧w'=w:=Any.bits_Mul Tryz.lays212 x y hx hy w
def Tryz.lays105_ren:Go.Shelf.Ren:=⟨fun|105=>132|212=>175|99=>176|165=>165|166=>166|170=>177|169=>167|263=>205|264=>206|206=>207|240=>194|241=>195|276=>215|277=>216|n=>n,fun|9=>9|3=>3|4=>4|20=>20|0=>0|46=>184|109=>234|5=>5|72=>226|76=>229|51=>182|146=>257|53=>201|148=>259|70=>224|37=>158|75=>228|127=>249|164=>266|80=>231|n=>n,fun|n=>n⟩
theorem Tryz.lays105:Go.Proofs.Lays.n105 Tryz.prog Tryz.lays105_ren:={
 mixed:=by kernel_rfl
 f99:=Tryz.func176.trans (congrArg some (by kernel_rfl))
 f105:=Tryz.func132.trans (congrArg some (by kernel_rfl))
 f165:=Tryz.func165.trans (congrArg some (by kernel_rfl))
 f166:=Tryz.func166.trans (congrArg some (by kernel_rfl))
 f169:=Tryz.func167.trans (congrArg some (by kernel_rfl))
 f170:=Tryz.func177.trans (congrArg some (by kernel_rfl))
 f206:=Tryz.func207.trans (congrArg some (by kernel_rfl))
 f212:=Tryz.func175.trans (congrArg some (by kernel_rfl))
 f240:=Tryz.func194.trans (congrArg some (by kernel_rfl))
 f241:=Tryz.func195.trans (congrArg some (by kernel_rfl))
 f263:=Tryz.func205.trans (congrArg some (by kernel_rfl))
 f264:=Tryz.func206.trans (congrArg some (by kernel_rfl))
 f276:=Tryz.func215.trans (congrArg some (by kernel_rfl))
 f277:=Tryz.func216.trans (congrArg some (by kernel_rfl))
 t0:=Tryz.underlying0
 a0:=Tryz.isAgg0
 z0:=Tryz.sizeOf0
 v0:=Tryz.zeroValue0
 t3:=Tryz.underlying3
 a3:=Tryz.isAgg3
 z3:=Tryz.sizeOf3
 v3:=Tryz.zeroValue3
 t4:=Tryz.underlying4
 a4:=Tryz.isAgg4
 z4:=Tryz.sizeOf4
 v4:=Tryz.zeroValue4
 t5:=Tryz.underlying5
 a5:=Tryz.isAgg5
 z5:=Tryz.sizeOf5
 v5:=Tryz.zeroValue5
 t9:=Tryz.underlying9
 a9:=Tryz.isAgg9
 z9:=Tryz.sizeOf9
 v9:=Tryz.zeroValue9
 t20:=Tryz.underlying20
 a20:=Tryz.isAgg20
 z20:=Tryz.sizeOf20
 v20:=Tryz.zeroValue20
 t37:=Tryz.underlying158
 a37:=Tryz.isAgg158
 z37:=Tryz.sizeOf158
 v37:=Tryz.zeroValue158
 t46:=Tryz.underlying184
 a46:=Tryz.isAgg184
 z46:=Tryz.sizeOf184
 v46:=Tryz.zeroValue184
 t51:=Tryz.underlying182
 a51:=Tryz.isAgg182
 z51:=Tryz.sizeOf182
 v51:=Tryz.zeroValue182
 t53:=Tryz.underlying201
 a53:=Tryz.isAgg201
 z53:=Tryz.sizeOf201
 v53:=Tryz.zeroValue201
 t70:=Tryz.underlying224
 a70:=Tryz.isAgg224
 z70:=Tryz.sizeOf224
 v70:=Tryz.zeroValue224
 t72:=Tryz.underlying226
 a72:=Tryz.isAgg226
 z72:=Tryz.sizeOf226
 v72:=Tryz.zeroValue226
 t75:=Tryz.underlying228
 a75:=Tryz.isAgg228
 z75:=Tryz.sizeOf228
 v75:=Tryz.zeroValue228
 t76:=Tryz.underlying229
 a76:=Tryz.isAgg229
 z76:=Tryz.sizeOf229
 v76:=Tryz.zeroValue229
 t109:=Tryz.underlying234
 a109:=Tryz.isAgg234
 z109:=Tryz.sizeOf234
 v109:=Tryz.zeroValue234
 t127:=Tryz.underlying249
 a127:=Tryz.isAgg249
 z127:=Tryz.sizeOf249
 v127:=Tryz.zeroValue249
 t146:=Tryz.underlying257
 a146:=Tryz.isAgg257
 z146:=Tryz.sizeOf257
 v146:=Tryz.zeroValue257
 t148:=Tryz.underlying259
 a148:=Tryz.isAgg259
 z148:=Tryz.sizeOf259
 v148:=Tryz.zeroValue259
 t164:=Tryz.underlying266
 a164:=Tryz.isAgg266
 z164:=Tryz.sizeOf266
 v164:=Tryz.zeroValue266}
theorem Tryz.Builder_Extra_105:Builder.Extra Tryz.prog Tryz.lays105_ren:={
 sizeBuilder:=by kernel_rfl
 liesBuilder:=by kernel_rfl
 t5:=Tryz.underlying5
 a5:=Tryz.isAgg5
 z5:=Tryz.sizeOf5
 v5:=Tryz.zeroValue5
 infoByte:=by kernel_rfl
 cellsByte:=by kernel_rfl
 sizeByte:=by kernel_rfl
 neB5:=by decide}
open Go.RowKit Go.Lib in
theorem Tryz.strings_Repeat (s:ByteArray)(c:Nat)(w:World)(hc:c≤9223372036854775807)(hlen:s.size*c≤140737488355328):
 Calls Tryz.prog 132 #[.string s,.int .i64 c] w fun e w'=>e=.returned (.string ⟨(Lib.repeatL s.data.toList c).toArray⟩)∧Below w.heap.size w w':=Any.strings_Repeat Tryz.lays105 Tryz.Builder_Extra_105 s c w hc hlen
end Go.Proofs
namespace Go.Proofs.YtegaapiocihcpaaGreatDoor
open Go.RowKit
theorem gP:Tryz.prog.globalNamed "internal/strconv.uint64pow10" =some 2:=by kernel_rfl
def Tabs (w:World):Prop:=Laid w∧Lib.TabIs Tryz.prog w "internal/strconv.uint64pow10" .u64 Lib.pow10Tab
theorem Tabs.to {w w':World}(h:Tabs w)(hb:Below w.heap.size w w'):Tabs w':=⟨h.1.to hb,TabIs_keep gP h.2 hb⟩
def sufF:Nat→Nat→List UInt8→List UInt8
 |0,_,acc=>acc
 |f+1,n,acc=>if n=0 then acc else sufF f ((n-1)/26) (UInt8.ofNat (97+(n-1)%26)::acc)
def labT (n s:Nat):ByteArray:=⟨(Lib.itoa (n:Int)++sufF 4 s []).toArray⟩
def sufB:Nat→Nat
 |4=>16384
 |3=>630
 |2=>24
 |_=>0
theorem ret_str {a b:ByteArray}(h:a=b):Ending.returned (.string a)=.returned (.string b):=by rw[h]
theorem val_str {a b:ByteArray}(h:a=b):Value.string a=.string b:=by rw[h]
theorem utf_letter (r:Nat)(hr:r<26):Utf8.encode (97+(r:Int))=⟨#[UInt8.ofNat (97+r)]⟩:=by
 have h:∀r:Fin 26,Utf8.encode (97+((r.val:Nat):Int))=⟨#[UInt8.ofNat (97+r.val)]⟩:=by decide +kernel
 exact h ⟨r,hr⟩
theorem sufB_step {g m:Nat}(h:m≤sufB (g+1))(_hm:¬m=0)(hg:g+1≤4):(m-1)/26≤sufB g∧m≤16384:=by
 rcases(show g=0∨g=1∨g=2∨g=3 by omega) with rfl|rfl|rfl|rfl;all_goals
  simp only[sufB] at h ⊢;omega
theorem ltext_any (n s:Nat)(hn:1≤n∧n≤16384)(hs:s≤16384)(w:World)(hT:Tabs w):
 Calls Tryz.prog 59 #[.agg #[.int .i64 (n:Int),.int .i64 (s:Int)]] w fun e w'=>e=.returned (.string (labT n s))∧Below w.heap.size w w':=by
 have hb0:=(Below.refl w.heap.size w).alloc nL (.cells #[.int .i64 (n:Int),.int .i64 (s:Int)] 40);have hx0:ABox (w.alloc (.cells #[.int .i64 (n:Int),.int .i64 (s:Int)] 40)) w.heap.size 40 [.int .i64 (n:Int),.int .i64 (s:Int)]:=heap_alloc_new w _;have hE:labE (n:Int) (s:Int)=0:=by unfold labE;rw[if_neg (by omega)]
 have hn1:(1:Int)≤n:=by omega
 have hn2:(n:Int)≤16384:=by omega
 have hs1:(s:Int)≤16384:=by omega
 have hs0:(0:Int)≤s:=by omega
 have HC:=Lh (labCheck_any (n:Int) (s:Int) (w.alloc (.cells #[.int .i64 (n:Int),.int .i64 (s:Int)] 40)));rw[hE] at HC;go_enter Tryz.func59,Tryz.ntmps59;go_upto_region 1 with(fail);generalize w.alloc (.cells #[.int .i64 (n:Int),.int .i64 (s:Int)] 40)=w0 at*;have HB0:=Lh hb0;have HX0:=Lh hx0;have HT:=Lh hT;have x0:=hx0.cell 0 rfl;have x1:=hx0.cell 1 rfl;have HNS:=Lh hn;clear hb0 hx0 hE hT hn hs
 go_upto_region 3 with(first|(go_at_call 114;refine HC.out.mono ?_;rintro e w1 ⟨rfl,hb1⟩;have HX1:=Lh (HX0.out.to hb1);have HB1:=Lh (HB0.out.trans (hb1.mono HB0.out.size));clear hb1 x0 x1;have x0:=HX1.out.cell 0 rfl;have x1:=HX1.out.cell 1 rfl)|fail)
 go_wp2_with fail;go_loop [3,4] (fun v i=>∃f m acc,v=.string ⟨acc.toArray⟩∧i=.int .i64 ((m:Nat):Int)∧sufF f m acc=sufF 4 s []∧m≤sufB f∧f≤4∧acc.length≤10*(4-f)) (fun _ i=>(intOf i).toNat);(case atStart=>exact⟨4,s,[],rfl,rfl,rfl,by show s≤16384;omega,by omega,by simp⟩);case round=>
  obtain⟨f,m,acc,rfl,rfl,hf,hm,hf4,hacc⟩:=hrel;have HF:=Lh hf;clear hf;by_cases hm0:m=0
  ·subst hm0
   have HS:Hid (acc=sufF 4 s []):=Lh (by
    rw[←HF.out]
    cases f with
    |zero=>rfl
    |succ f=>rw[sufF,if_pos rfl])
   have hal:acc.length≤40:=(by omega);go_upto_region 8 with(fail);have HIT:=Lh ((Tryz.strconv_Itoa (n:Int) (by omega) (by omega) w1 (HT.out.to HB1.out).2));have hil:=Lib.itoa_length_le (n:Int) (by omega) (by omega);have HLT:Hid (labT n s=⟨(Lib.itoa (n:Int)++acc).toArray⟩):=Lh (by unfold labT;rw[HS.out]);generalize Lib.itoa (n:Int)=l at*;go_wp2_with fail;refine HIT.out.mono ?_;rintro e w2 ⟨rfl,k,os,hw⟩;have HB2:=Lh (show Below w1.heap.size w1 w2 by rw[hw];exact Lib.below_grow _ _ nL _ _);clear hw;have h9:l.length+acc.length≤9223372036854775807:=(by omega);go_wp2_with fail;go_ret;exact⟨ret_str (by rw[HLT.out];apply ByteArray.ext;simp),HB1.out.trans (HB2.out.mono HB1.out.size)⟩
  ·obtain⟨g,rfl⟩:∃g,f=g+1:=by
    cases f with
    |zero=>exact absurd hm (by show ¬m≤0;omega)
    |succ g=>exact⟨g,rfl⟩
   obtain⟨hb1,hb2⟩:=sufB_step hm hm0 hf4;have hmI:0<(m:Int):=(by omega);have hm3:(m:Int)≤16384:=(by omega);have e1:((m:Int)-1)%26=(((m-1)%26:Nat):Int):=(by omega);have e2:((m:Int)-1)/26=(((m-1)/26:Nat):Int):=(by omega);have hU:Utf8.encode (97+((m:Int)-1)%26)=⟨#[UInt8.ofNat (97+(m-1)%26)]⟩:=(by rw[e1];exact utf_letter _ (Nat.mod_lt _ (by decide)));have HE2:=Lh e2
   have HSF:Hid (sufF g ((m-1)/26) (UInt8.ofNat (97+(m-1)%26)::acc)=sufF 4 s []):=Lh (by
    rw[←HF.out,sufF,if_neg hm0])
   have hal:acc.length≤40:=(by omega);have HBD:=Lh hb1;clear e1 e2 hb1 hb2 hm;generalize UInt8.ofNat (97+(m-1)%26)=ch at*;go_wp2_with fail;go_round;(case rel=>exact⟨g,(m-1)/26,ch::acc,val_str (by apply ByteArray.ext;simp),by rw[HE2.out],HSF.out,HBD.out,by omega,by rw[qC];omega⟩);case measure=>simp[intOf];omega
end Go.Proofs.YtegaapiocihcpaaGreatDoor
namespace Go.Proofs.YtegaapiocihcpaaGreatDoor
open Go.ChangeShapes Go.WideShapes Go.ChangeAt Go.RowKit
variable {H:Type} {enc:TypeId × Value→H} {P:Program}
def readT (P:Program)(t:TypeId):Bool:=P.readableRec t&&decide (t<P.types.size)
theorem stays {W W':World}(hl:laidOutB P=true)(hb:Below W.heap.size W W')(sp:Nat→Bool):∀{ts:List TypeId} {vs:List Value} {ds:List (DataW H)} {p:List MemPlace},ts.all (readT P)=true→DataW.TrodAll enc P W 0 (fun _=>true) true ts vs ds p→(∀x∈p,x.block<W.heap.size)→(∀x∈p,sp x.block=true)→DataW.TrodAll enc P W' 0 sp true ts vs ds p:=by
 intro ts;induction ts with
 |nil=>
  intro vs ds p _ h _ _;obtain⟨rfl,rfl,rfl⟩:=trodAll_nil h;exact trodAll_mk0
 |cons t ts ih=>
  intro vs ds p hr h hlt hsp;obtain⟨v,vs',d,ds',q,q',rfl,rfl,rfl,h1,h2⟩:=trodAll_cons h;rw[List.all_cons,Bool.and_eq_true] at hr;have hr1:=hr.1;unfold readT at hr1;rw[Bool.and_eq_true,decide_eq_true_iff] at hr1
  exact trodAll_cons_mk (WideElems.Trod_stays hl hr1.1 hr1.2 h1 (fun x hx=>hb.same (hlt x (List.mem_append_left _ hx))) (fun x hx=>hsp x (List.mem_append_left _ hx))) (ih hr.2 h2 (fun x hx=>hlt x (List.mem_append_right _ hx)) (fun x hx=>hsp x (List.mem_append_right _ hx)))
theorem row_close {f:Func}{s:ChangeSpec}{W W':World}{args:Array Value}{ds gs:List (DataW H)}{before:List MemPlace}{tb:TypeId}{fresh handsOn:Bool} (hl:laidOutB P=true) (ht:P.underlying tb=some .bool) (hrt:f.resultTypes=#[tb]) (hr:f.params.toList.all (readT P)=true) (hv:s.vars=[]) (hW:DataW.Whole enc P f.params.toList s.vars false W args.toList ds gs before) (hres:(s.fn H (ds++gs))={results:=[.lit (.bool true)],args:=ds}) (hb:Below W.heap.size W W'):
 s.post enc P f false fresh handsOn false W args (.bool true) W':=by
 have hlt:∀p∈before,p.block<W.heap.size:=fun p hp=>hW.lt p hp
 have hW':=hW;obtain⟨p,q,hA,hV,rfl,hz,_⟩:=hW;rw[hv] at hV;obtain⟨rfl,rfl⟩:=trodVars_none hV;rw[List.append_nil] at hlt hz hW';refine⟨ds,[],p,[],p,[],hW',?_,?_,?_,hb.frame _,fun h=>by cases h⟩
 ·rw[hrt,hres];exact trodAll_cons_mk (shut_bool ht true) trodAll_mk0
 ·rw[hres];exact stays hl hb _ hr hA hlt (fun x hx=>by simpa using hlt x hx)
 ·rw[hres,hv];rfl
theorem i64_wf {n:Int}(h:(Lit.int .i64 n).wf=true): -9223372036854775808≤n∧n≤9223372036854775807:=by
 simpa[Lit.wf,IntKind.min,IntKind.max,IntKind.signed,IntKind.bits] using h
end Go.Proofs.YtegaapiocihcpaaGreatDoor
namespace Go.Proofs.YtegaapiocihcpaaGreatDoor
open Go.ChangeShapes Go.WideShapes Go.ChangeAt Go.RowKit
def laidL:List (String × DataW Unit):=Rows.viewSheetsRow.laid
theorem gType_w:(Tryz.prog.globals[0]?).map (·.type)=some 181:=by kernel_rfl
theorem gType_p:(Tryz.prog.globals[2]?).map (·.type)=some 272:=by kernel_rfl
theorem filt_w:laidL.filter (fun x=>x.1== "rollbook/glyph.widths")=[("rollbook/glyph.widths",Lib.tabData .u8 wTab)]:=by kernel_rfl
theorem filt_p:laidL.filter (fun x=>x.1== "internal/strconv.uint64pow10")=[("internal/strconv.uint64pow10",Lib.tabData .u64 Lib.pow10Tab)]:=by kernel_rfl
theorem cells_u8:Tryz.prog.cellsOf 5=1:=by kernel_rfl
theorem cells_u64:Tryz.prog.cellsOf 201=1:=by kernel_rfl
theorem cells_w:Tryz.prog.cellsOf 181=94:=by kernel_rfl
theorem cells_p:Tryz.prog.cellsOf 272=20:=by kernel_rfl
theorem tabs_of {W:World}(h:laidMetH Tryz.prog laidL W):Tabs W:=by
 have hw:=h.filter (fun x=>x.1== "rollbook/glyph.widths");have hp:=h.filter (fun x=>x.1== "internal/strconv.uint64pow10");rw[filt_w] at hw;rw[filt_p] at hp
 exact⟨Lib.tabIs_of_head (rest:=[]) gW gType_w Tryz.underlying181 Tryz.underlying5 cells_u8 cells_w hw,Lib.tabIs_of_head (rest:=[]) gP gType_p Tryz.underlying272 Tryz.underlying201 cells_u64 cells_p hp⟩
def nums:DataW Unit→Array Value
 |.agg xs=>(xs.map fun x=>match x with|.lit (.int k z)=>Value.int k z|_=>.bool false).toArray
 |_=>#[]
def lay (w:World)(b:Nat)(d:DataW Unit):World:=
 {w with heap:=w.heap.modify b fun|.cells _ t fr=>.cells (nums d) t fr|o=>o}
noncomputable def laidWorld (os:Os):World:=
 lay (lay (lay (lay (World.holding Tryz.prog os ⟨#[],#[],[]⟩) 0 Rows.laid_rollbook_glyph_widths) 2 Rows.laid_internal_strconv_uint64pow10) 4 Rows.laid_math_bits_deBruijn32tab) 5 Rows.laid_math_bits_deBruijn64tab
theorem own:ownKnob Tryz.prog.godebug=none:=by kernel_rfl
theorem laidOut:laidOutB Tryz.prog=true:=by kernel_rfl
theorem cells_int:Tryz.prog.cellsOf 3=1:=by kernel_rfl
end Go.Proofs.YtegaapiocihcpaaGreatDoor
namespace Go.Proofs.YtegaapiocihcpaaGreatDoor
open Go.RowKit
def anyI (p:Int→Bool)(l:List Int):Bool:=l.any p
theorem anyI_take (p:Int→Bool)(l:List Int)(k:Nat)(h:k<l.length):anyI p (l.take (k+1))=(anyI p (l.take k)||p l[k]):=by
 unfold anyI;rw[qT h,List.any_append];simp
theorem anyI_hit (p:Int→Bool)(l:List Int)(k:Nat)(h:k<l.length)(hp:p l[k]=true):anyI p l=true:=List.any_eq_true.2 ⟨_,List.getElem_mem h,hp⟩
def IsIdxI (p:Int→Bool)(l:List Int)(w:World)(e:Ending)(w':World):Prop:=∃r:Int,e=.returned (.int .i64 r)∧decide (0≤r)=anyI p l∧w=w'
theorem indexFuncI_any (A:Option Addr)(c n:Nat)(l:List Int)(f:FuncId)(p:Int→Bool)(w:World)(hl:Sl w (fun b=>b<w.heap.size) A c l)(hn:l.length=n) (hcf:∀(w':World) (args:Array Value),(callFunc f args).run Tryz.prog w'=.ok (.enter f args) w') (hf:∀(x:Int) (w':World),I64 x→Calls Tryz.prog f #[.int .i64 x] w' fun e w''=>e=.returned (.bool (p x))∧w'=w''):
 Calls Tryz.prog 223 #[.slice A n c,.func (.func f) #[] #[]] w (IsIdxI p l w):=by
 subst hn;have hlen:l.length≤9223372036854775807:=by have:=hl.1;have:=hl.2.1;unfold maxLen at this;omega
 have Hf:=Lh hf;have Hl:=Lh hl;clear hf hl;go_enter Tryz.func223,Tryz.ntmps223;go_wp2_with fail;go_loopw [5,8] (fun _ i wr=>∃k:Nat,k≤l.length∧i=.int .i64 k∧Hid (anyI p (l.take k)=false)∧wr=w) (fun _ i _=>l.length-(intOf i).toNat);(case atStart=>exact⟨0,Nat.zero_le _,rfl,Lh (by simp[anyI]),rfl⟩);case round=>
  obtain⟨k,hk,rfl,hno,rfl⟩:=hrel;by_cases hlt:k<l.length
  ·obtain⟨b,o,rfl,_,hbl,hok,hc⟩:=Qbr Hl.out hlt;have hkl:(k:Int)<(l.length:Int):=(by omega);have hk0:(0:Int)≤(k:Int):=(by omega);have HT:=Lh (anyI_take p l k hlt);have HH:=Lh (anyI_hit p l k hlt);have HOK:=Lh hok;generalize l[k]=q at*;clear hok;go_wp2_with fail;refine(Hf.out q _ HOK.out).mono ?_;rintro e w' ⟨rfl,rfl⟩;cases hp:p q
   ·have E:=Lh (show anyI p (l.take (k+1))=false by rw[HT.out,hno.out,hp];rfl);clear hp;go_wp2_with fail;go_roundw;(case rel=>exact⟨k+1,by omega,by go_num,E,by first|trivial|rfl⟩);case measure=>simp[intOf];omega
   ·have E:=Lh (HH.out hp);clear hp;go_wp2_with fail;go_ret;exact⟨k,rfl,by rw[E.out];exact decide_eq_true hk0,rfl⟩
  ·have E:=Lh (show anyI p l=false by have:=hno.out;rwa [List.take_of_length_le (by omega)] at this);go_wp2_with fail;go_ret;exact⟨-1,rfl,by rw[E.out];rfl,rfl⟩
theorem QcO (A:Option Addr)(c n:Nat)(l:List Int)(f:FuncId)(p:Int→Bool)(w:World)(hl:Sl w (fun b=>b<w.heap.size) A c l)(hn:l.length=n) (hcf:∀(w':World) (args:Array Value),(callFunc f args).run Tryz.prog w'=.ok (.enter f args) w') (hf:∀(x:Int) (w':World),I64 x→Calls Tryz.prog f #[.int .i64 x] w' fun e w''=>e=.returned (.bool (p x))∧w'=w''):
 Calls Tryz.prog 208 #[.slice A n c,.func (.func f) #[] #[]] w fun e w'=>e=.returned (.bool (anyI p l))∧w=w':=by
 have Hi:=Lh (indexFuncI_any A c n l f p w hl hn hcf hf);clear hl hf hcf;go_enter Tryz.func208,Tryz.ntmps208;go_wp2_with fail;refine Hi.out.mono ?_;rintro e w' ⟨r,rfl,hr,rfl⟩;have Hr:=Lh hr;clear hr;go_wp2_with fail;go_ret;exact⟨QaV Hr.out,rfl⟩
def oddW (x:Int):Bool:=decide (x<1)||decide (480<x)
theorem oddW_any (x:Int)(w:World)(_hx:I64 x):Calls Tryz.prog 209 #[.int .i64 x] w fun e w'=>e=.returned (.bool (oddW x))∧w=w':=by
 unfold oddW;by_cases h1:x<1
 ·rw[decide_eq_true h1,Bool.true_or];go_enter Tryz.func209,Tryz.ntmps209;go_wp2_with fail;go_ret;exact⟨rfl,rfl⟩
 ·rw[decide_eq_false h1,Bool.false_or];by_cases h2:480<x
  ·rw[decide_eq_true h2];go_enter Tryz.func209,Tryz.ntmps209;go_wp2_with fail;go_ret;exact⟨rfl,rfl⟩
  ·rw[decide_eq_false h2];go_enter Tryz.func209,Tryz.ntmps209;go_wp2_with fail;go_ret;exact⟨rfl,rfl⟩
set_option maxRecDepth 100000 in
theorem reg_odd {ws:List Int}{m:Int}(h:Reg ws m):anyI oddW ws=false:=by
 unfold anyI;rw[List.any_eq_false];intro x hx;obtain⟨h1,h2⟩:=h.w x hx;unfold oddW;simp;omega
set_option maxRecDepth 100000 in
theorem pcheck_any (A:Option Addr)(c:Nat)(ws:List Int)(m:Int)(w:World)(hs:Sl w (fun b=>b<w.heap.size) A c ws)(hr:Reg ws m):
 Calls Tryz.prog 178 #[.slice A ws.length c,.int .i64 m] w fun e w'=>e=.returned (.int .i64 0)∧w=w':=by
 have HC:=Lh (QcO A c ws.length ws 209 oddW w hs rfl (fun _ _=>rfl) (fun x w' hx=>oddW_any x w' hx));rw[reg_odd hr] at HC;have h1:¬(500:Int)<(ws.length:Int):=by have:=hr.n;omega
 have h2:¬m<500:=by have:=hr.lo;omega
 have h3:¬2000<m:=by have:=hr.hi;omega
 clear hs hr;go_enter Tryz.func178,Tryz.ntmps178;go_wp2_with fail;refine HC.out.mono ?_;rintro e w' ⟨rfl,rfl⟩;go_wp2_with fail;go_ret;exact⟨rfl,rfl⟩
theorem Qdd (ws:List Int)(hw:∀x∈ws,1≤x∧x≤480):∀(s:Int),ws.foldl (fun s w=>s-(w+6)) s≤s∧s-486*(ws.length:Int)≤ws.foldl (fun s w=>s-(w+6)) s:=by
 induction ws with
 |nil=>intro s;simp
 |cons x ws ih=>
  intro s;have h1:=hw x (by simp);have h2:=ih (fun y hy=>hw y (by simp[hy])) (s-(x+6));simp only[List.foldl_cons,qC];omega
theorem slack_any (A:Option Addr)(c:Nat)(ws:List Int)(m:Int)(w:World)(hs:Sl w (fun b=>b<w.heap.size) A c ws)(hr:Reg ws m):
 Calls Tryz.prog 180 #[.slice A ws.length c,.int .i64 m] w fun e w'=>e=.returned (.int .i64 (Qa1 ws m))∧w=w':=by
 have HS:=Lh hs;have HR:=Lh hr;have h1:m≤2000:=hr.hi;have h2:500≤m:=hr.lo;have h3:ws.length≤500:=hr.n;clear hs hr;go_enter Tryz.func180,Tryz.ntmps180;go_wp2_with fail;go_loopw [5,12] (fun s i wr=>∃(k:Nat),k≤ws.length∧i=.int .i64 k∧s=.int .i64 (Qa1 (ws.take k) m)∧wr=w) (fun _ i _=>ws.length-(intOf i).toNat);(case atStart=>exact⟨0,Nat.zero_le _,rfl,rfl,rfl⟩);case round=>
  obtain⟨k,hk,rfl,rfl,rfl⟩:=hrel;by_cases hlt:k<ws.length
  ·obtain⟨b,o,rfl,_,hbl,hok,hc⟩:=Qbr HS.out hlt;have hkl:(k:Int)<(ws.length:Int):=(by omega);have hk0:(0:Int)≤(k:Int):=(by omega);have hx:=HR.out.w ws[k] (List.getElem_mem hlt);have HN:Hid (Qa1 (ws.take (k+1)) m=Qa1 (ws.take k) m-(ws[k]+6)):=Lh (by unfold Qa1;rw[qT hlt,List.foldl_append];rfl);have hb:=Qdd (ws.take k) (fun x hx=>HR.out.w x (List.mem_of_mem_take hx)) (m+6);have hlen:(ws.take k).length=k:=(by rw[qK];omega);rw[hlen] at hb;have hb1:Qa1 (ws.take k) m≤2006:=(by unfold Qa1;omega);have hb2: -300000≤Qa1 (ws.take k) m:=(by unfold Qa1;omega);generalize Qa1 (ws.take k) m=s at*;generalize ws[k]=x at*;obtain⟨hx1,hx2⟩:=hx;clear hb hlen;go_wp2_with fail;go_roundw;(case rel=>exact⟨k+1,by omega,by go_num,by rw[HN.out],by first|trivial|rfl⟩);case measure=>(simp[intOf];omega)
  ·have HE:Hid (Qa1 (ws.take k) m=Qa1 ws m):=Lh (by rw[List.take_of_length_le (by omega)]);go_wp2_with fail;go_ret;exact⟨by rw[←HE.out];rfl,rfl⟩
def setL (cur:Array Value):Nat→List Value→Array Value
 |_,[]=>cur
 |o,v::vs=>setL (cur.setIfInBounds o v) (o+1) vs
theorem QdT:∀(vs:List Value) (cur:Array Value) (o:Nat),(setL cur o vs).size=cur.size
 |[],_,_=>rfl
 |v::vs,cur,o=>by rw[setL,QdT vs];simp
theorem setL_get:∀(vs:List Value) (cur:Array Value) (o k:Nat),o+vs.length≤cur.size→(setL cur o vs)[k]? =if o≤k∧k<o+vs.length then vs[k-o]? else cur[k]?
 |[],cur,o,k,_=>by rw[setL,if_neg (by simp only[List.length_nil];omega)]
 |v::vs,cur,o,k,h=>by
  rw[qC] at h;rw[setL,setL_get vs _ (o+1) k (by simp;omega),qC];by_cases h1:o=k
  ·subst h1;rw[if_neg (by omega),if_pos ⟨Nat.le_refl _,by omega⟩,Nat.sub_self,List.getElem?_cons_zero,Array.getElem?_setIfInBounds];simp;omega
  ·by_cases h2:o+1≤k∧k<o+1+vs.length
   ·rw[if_pos h2,if_pos (by omega)];obtain⟨d,hd⟩:∃d,k-o=d+1:=⟨k-o-1,by omega⟩;rw[hd,List.getElem?_cons_succ];congr 1;omega
   ·rw[if_neg h2,if_neg (by omega),Array.getElem?_setIfInBounds_ne h1]
theorem QbR (b:Nat):∀(vs:List Value) (o:Nat) (w:World) {cur:Array Value} {t:TypeId} {fr:Nat × Nat},w.heap[b]? =some (.cells cur t fr)→(w.setCells b o vs).heap[b]? =some (.cells (setL cur o vs) t fr)
 |[],_,_,_,_,_,h=>h
 |v::vs,o,w,cur,t,fr,h=>by
  refine QbR b vs (o+1) (w.setCell ⟨b,o,none⟩ v) ?_;simp only[World.setCell,Array.getElem?_modify,if_true,h,Option.map_some,Option.isSome_none,Bool.false_eq_true,if_false]
theorem QaB (b:Nat){i:Nat}(hi:i≠b):∀(vs:List Value) (o:Nat) (w:World),(w.setCells b o vs).heap[i]? =w.heap[i]?
 |[],_,_=>rfl
 |v::vs,o,w=>by
  refine(QaB b hi vs (o+1) (w.setCell ⟨b,o,none⟩ v)).trans ?_;simp only[World.setCell,Array.getElem?_modify];rw[if_neg (fun e=>hi e.symm)]
theorem QbL (b:Nat):∀(vs:List Value) (o:Nat) (w:World),(w.setCells b o vs).heap.size=w.heap.size
 |[],_,_=>rfl
 |v::vs,o,w=>(QbL b vs (o+1) (w.setCell ⟨b,o,none⟩ v)).trans (by simp[World.setCell])
theorem Qbx {B b:Nat}(hb:B≤b):∀(vs:List Value) (o:Nat) {w0 w:World},Below B w0 w→Below B w0 (w.setCells b o vs)
 |[],_,_,_,h=>h
 |v::vs,o,_,_,h=>Qbx hb vs (o+1) (h.setCell (p:=⟨b,o,none⟩) hb v)
section
variable {α:Type} [Rep α] {w:World} {base g c:Nat} {e:TypeId} {l:List α}
theorem Own.there (h:Own w base e (.slice (some ⟨g,0,none⟩) l.length c) l){i:Nat}(hi:i<l.length):w.there g (i*Rep.size α) (Rep.size α):=by
 obtain⟨xs,hx,ho,hr⟩:=h;rcases hx.2 with⟨h1,_⟩|⟨g',cap,cur,h1,hb,hg,hnc,hcm,hcs,htake⟩
 ·cases h1
 ·cases h1;intro j hj;have h2:(i+1)*Rep.size α≤l.length*Rep.size α:=Nat.mul_le_mul_right _ hi;have h3:l.length*Rep.size α≤c*Rep.size α:=Nat.mul_le_mul_right _ hnc;rw[Nat.add_mul,Nat.one_mul] at h2;refine⟨?_,by simp[World.frozen?,hg]⟩;rw[cell_of_row _ _ _ _ _ _ hg,Array.getElem?_eq_getElem (by omega)];rfl
theorem Own.setMid (h:Own w base e (.slice (some ⟨g,0,none⟩) l.length c) l){i:Nat}(hi:i<l.length){cs:List Value}{x:α}(hr:Rep.R w (fun b=>b≠g) cs x):
 Own (w.setCells g (i*Rep.size α) cs) base e (.slice (some ⟨g,0,none⟩) l.length c) (l.set i x):=by
 obtain⟨xs,hx,ho,hq⟩:=h;rcases hx.2 with⟨h1,_⟩|⟨g',cap,cur,h1,hb,hg,hnc,hcm,hcs,htake⟩
 ·cases h1
 ·cases h1;have hlen:=Rep.len hr;have h2:(i+1)*Rep.size α≤l.length*Rep.size α:=Nat.mul_le_mul_right _ hi;have h3:l.length*Rep.size α≤c*Rep.size α:=Nat.mul_le_mul_right _ hnc;rw[Nat.add_mul,Nat.one_mul] at h2;have hfit:i*Rep.size α+cs.length≤cur.size:=(by omega);have hkept:Kept (fun b=>b≠g) w (w.setCells g (i*Rep.size α) cs):=fun k hk _=>QaB g hk _ _ _
  have hl2:(setL cur (i*Rep.size α) cs).toList.length=cur.size:=(Array.length_toList).trans (QdT _ _ _);have hxl:((setL cur (i*Rep.size α) cs).toList.take (l.length*Rep.size α)).length=l.length*Rep.size α:=by
   rw[qK,hl2];omega
  have hget:∀k,((setL cur (i*Rep.size α) cs).toList.take (l.length*Rep.size α))[k]? =if i*Rep.size α≤k∧k<i*Rep.size α+cs.length then cs[k-i*Rep.size α]? else xs[k]? :=by
   intro k;have e1:(setL cur (i*Rep.size α) cs).toList[k]? =(setL cur (i*Rep.size α) cs)[k]? :=(by simp);have e2:cur.toList[k]? =cur[k]? :=(by simp);rw[←htake,List.getElem?_take,List.getElem?_take,e1,e2,setL_get _ _ _ _ hfit];by_cases hk:k<l.length*Rep.size α
   ·rw[if_pos hk,if_pos hk]
   ·rw[if_neg hk,if_neg hk,if_neg (by omega)]
  refine⟨(setL cur (i*Rep.size α) cs).toList.take (l.length*Rep.size α),⟨by rw[List.length_set];exact hxl,.inr ⟨g,c,setL cur (i*Rep.size α) cs,by rw[List.length_set],hb,QbR g _ _ _ hg,by rw[List.length_set];exact hnc,hcm,by rw[QdT];exact hcs,by rw[List.length_set]⟩⟩,?_,?_⟩
  ·intro u hu;obtain⟨k,hk⟩:=List.getElem?_of_mem hu;rw[hget] at hk;split at hk
   ·exact Rep.one hr u (List.mem_of_getElem? hk)
   ·exact ho u (List.mem_of_getElem? hk)
  ·intro j hj;have hj':j<l.length:=(by rw[List.length_set] at hj;exact hj);by_cases hij:i=j
   ·subst hij;have ht:((((setL cur (i*Rep.size α) cs).toList.take (l.length*Rep.size α)).drop (i*Rep.size α)).take (Rep.size α))=cs:=by
     apply List.ext_getElem?;intro k;rw[List.getElem?_take,List.getElem?_drop,hget];by_cases hk:k<Rep.size α
     ·rw[if_pos hk,if_pos (by omega)];congr 1;omega
     ·rw[if_neg hk,List.getElem?_eq_none (by omega)]
    rw[List.getElem_set_self,ht];exact Rep.mono (Rep.keep hr hkept) (fun b hb _=>by simpa[Value.ownBlock] using fun e=>hb e)
   ·have ht:((((setL cur (i*Rep.size α) cs).toList.take (l.length*Rep.size α)).drop (j*Rep.size α)).take (Rep.size α))=(xs.drop (j*Rep.size α)).take (Rep.size α):=by
     apply List.ext_getElem?;intro k;rw[List.getElem?_take,List.getElem?_drop,hget,List.getElem?_take,List.getElem?_drop];by_cases hk:k<Rep.size α
     ·rw[if_pos hk,if_pos hk,if_neg];rcases Nat.lt_or_gt_of_ne hij with h4|h4
      ·have h5:(i+1)*Rep.size α≤j*Rep.size α:=Nat.mul_le_mul_right _ h4;rw[Nat.add_mul,Nat.one_mul] at h5;omega
      ·have h5:(j+1)*Rep.size α≤i*Rep.size α:=Nat.mul_le_mul_right _ h4;rw[Nat.add_mul,Nat.one_mul] at h5;omega
     ·rw[if_neg hk,if_neg hk]
    rw[List.getElem_set_ne hij,ht];exact Rep.keep (hq j hj') (fun k hk _=>QaB g (fun e=>hk (by rw[e];rfl)) _ _ _)
end
theorem Qd0 {P:Program}{o:Oper}{a:Act}{w:World}{K:Act→World→Prop}{Q:Exit→Act→World→Prop}(t:TypeId)(x y:Operand)(ho:o.op=.makeSlice t x y)(e:TypeId)(z:Value)(size bytes:Nat) (ht:P.underlying t=some (.slice e)) (hinfo:(P.info? e).map (fun i=>(i.zero,i.size,i.bytes))=some (some z,size,bytes)) (n:Nat) (hx:a.eval x=.int .i64 (n:Int)) (hy:a.eval y=.int .i64 (n:Int)) (hb:n*bytes≤140737488355328) (h63:n≤9223372036854775807) (h:K (a.put o.dst (.slice (some ⟨w.heap.size,0,none⟩) n n)) (w.alloc (.cells (madeCells z.cells (n*size)) e))):o.wp P a w K Q:=by
 obtain⟨i,hi,hz,hsz,hbz⟩:=info_parts hinfo;have hb':(i.bytes:Int)*(n:Int)≤281474976710656:=by
  rw[hbz];have h:((bytes*n:Nat):Int)≤281474976710656:=(by rw[Nat.mul_comm];omega);rwa [Int.natCast_mul] at h
 have hr:=run_make (P:=P) w t e i z ht hi hz .i64 .i64 n n (by omega) (Int.le_refl _) hb' (by omega);simp only[Int.toNat_natCast,hsz] at hr;unfold Oper.wp execOp;simp only[ho,hx,hy,Sem.run_bind,hr,Result.andThen_ok,Sem.run_pure];exact h
theorem QaY {P:Program}{ops:Array Oper}{rest:List Oper}{o:Oper}{a:Act}{w:World}{Q:Exit→Act→World→Prop}(hgd:o.guard=none)(t:TypeId)(x y:Operand)(ho:o.op=.makeSlice t x y)(e:TypeId)(z:Value)(size bytes:Nat) (ht:P.underlying t=some (.slice e)) (hinfo:(P.info? e).map (fun i=>(i.zero,i.size,i.bytes))=some (some z,size,bytes)) (n:Nat) (hx:a.eval x=.int .i64 (n:Int)) (hy:a.eval y=.int .i64 (n:Int)) (hb:n*bytes≤140737488355328) (h63:n≤9223372036854775807) (h:wpList P ops Q rest (a.put o.dst (.slice (some ⟨w.heap.size,0,none⟩) n n)) (w.alloc (.cells (madeCells z.cells (n*size)) e))):wpList P ops Q (o::rest) a w:=
 wpList_plain hgd fun _ hK=>Qd0 t x y ho e z size bytes ht hinfo n hx hy hb h63 (hK _ _ h)
theorem made_ints (n:Nat):madeCells (Value.int .i64 0).cells (n*1)=((List.replicate n (0:Int)).map (Value.int .i64)).toArray:=by
 apply Array.ext';unfold madeCells;rw[Nat.mul_one];apply List.ext_getElem?;intro i;simp only[Value.cells,List.getElem?_map,List.getElem?_replicate,Array.toList_map,Array.toList_range];by_cases h:i<n
 ·rw[List.getElem?_range h,if_pos h];simp[Nat.mod_one]
 ·rw[List.getElem?_eq_none (by simpa using h),if_neg h];rfl
theorem irow_made (w:World)(n:Nat)(t:TypeId):IRow (w.alloc (.cells (madeCells (Value.int .i64 0).cells (n*1)) t)) w.heap.size t (List.replicate n 0):=by
 rw[made_ints];exact heap_alloc_new w _
theorem Qa8:(Tryz.prog.info? 3).map (fun i=>(i.zero,i.size,i.bytes))=some (some (.int .i64 0),1,8):=by kernel_rfl
def rowC (ws:List Int)(m:Int)(k i:Nat)(cur:Int):List Int:=List.replicate i 0++cur::(bestL ws m k).map (·.1)
def rowE (ws:List Int)(m:Int)(k i:Nat)(cur:Int):List Int:=List.replicate i 0++cur::(bestL ws m k).map (fun x=>(x.2:Int))
theorem rowC_start (ws:List Int)(m:Int):List.replicate (ws.length+1) (0:Int)=List.replicate ws.length 0++(bestL ws m 0).map (·.1):=by rw[List.replicate_succ'];rfl
theorem rowE_start (ws:List Int)(m:Int):List.replicate (ws.length+1) (0:Int)=List.replicate ws.length 0++(bestL ws m 0).map (fun x=>(x.2:Int)):=by rw[List.replicate_succ'];rfl
theorem row_open (i:Nat)(l:List Int):List.replicate (i+1) (0:Int)++l=List.replicate i 0++0::l:=by rw[List.replicate_succ',List.append_assoc];rfl
theorem row_set (i:Nat)(l:List Int)(x y:Int):(List.replicate i 0++x::l).set i y=List.replicate i 0++y::l:=by
 rw[List.set_append_right _ _ (by simp)];simp
theorem row_at (i:Nat)(l:List Int)(x:Int):(List.replicate i 0++x::l)[i]? =some x:=by
 rw[List.getElem?_append_right (by simp)];simp
theorem best_next (ws:List Int)(m:Int){i k:Nat}(h:i+1+k=ws.length):bestL ws m (k+1)=scanE ws.length (ws.drop i) (bestL ws m k) (m+6) (i+1) true (0,0)::bestL ws m k:=by
 have e:ws.length-(k+1)=i:=by omega
 rw[bestL,e]
theorem rowC_next {ws:List Int}{m:Int}{i k:Nat}{cur:Int × Nat}(h:i+1+k=ws.length)(hc:scanE ws.length (ws.drop i) (bestL ws m k) (m+6) (i+1) true (0,0)=cur):rowC ws m k i cur.1=List.replicate i 0++(bestL ws m (k+1)).map (·.1):=by
 rw[best_next ws m h,hc];rfl
theorem rowE_next {ws:List Int}{m:Int}{i k:Nat}{cur:Int × Nat}(h:i+1+k=ws.length)(hc:scanE ws.length (ws.drop i) (bestL ws m k) (m+6) (i+1) true (0,0)=cur):rowE ws m k i (cur.2:Int)=List.replicate i 0++(bestL ws m (k+1)).map (fun x=>(x.2:Int)):=by
 rw[best_next ws m h,hc];rfl
theorem head_drop (l:List (Int × Nat))(d:Nat)(x:Int × Nat)(h:l[d]? =some x):(l.drop d).headD (0,0)=x:=by
 rw[List.headD_eq_head?_getD,List.head?_drop,h];rfl
theorem ends_at (ws:List Int)(m:Int)(a:Nat)(h:a<ws.length):((bestL ws m ws.length).map (fun x=>(x.2:Int)))[a]? =some ((bestAt ws m a).2:Int):=by
 unfold bestAt;rw[List.getElem?_map,List.getD_eq_getElem?_getD,qG (by rw[Qbb];omega)];rfl
theorem chain_at (ws:List Int)(m:Int)(a f:Nat)(h:a<ws.length):chainE ((bestL ws m ws.length).map (·.2)) ws.length (f+1) a=(bestAt ws m a).2::chainE ((bestL ws m ws.length).map (·.2)) ws.length f (bestAt ws m a).2:=by
 have e:((bestL ws m ws.length).map (·.2)).getD a 0=(bestAt ws m a).2:=by
  unfold bestAt;rw[List.getD_eq_getElem?_getD,List.getD_eq_getElem?_getD,List.getElem?_map,qG (by rw[Qbb];omega)];rfl
 rw[chainE,if_pos h,e]
theorem row_behind (i d:Nat)(l:List Int)(x:Int):(List.replicate i 0++x::l)[i+d+1]? =l[d]? :=by
 rw[List.getElem?_append_right (by simp;omega)];have:i+d+1-(List.replicate i (0:Int)).length=d+1:=by simp;omega
 rw[this,List.getElem?_cons_succ]
theorem Qbl (w:World)(n:Nat)(t:TypeId):IRow (w.alloc (.cells (madeCells #[Value.int .i64 0] n) t)) w.heap.size t (List.replicate n 0):=by
 have:=irow_made w n t;rwa [Nat.mul_one] at this
set_option maxRecDepth 100000 in
theorem ends_any (A:Option Addr)(c:Nat)(ws:List Int)(m:Int)(w:World)(hs:Sl w (fun b=>b<w.heap.size) A c ws)(hr:Reg ws m):
 Calls Tryz.prog 135 #[.slice A ws.length c,.int .i64 m] w fun e w'=>∃v,e=.returned (.tuple #[v,.int .i64 0])∧Own w' w.heap.size 3 v ((endsP ws m).map (fun(n:Nat)=>(n:Int)))∧Below w.heap.size w w':=by
 have HC:=Lh (pcheck_any A c ws m w hs hr);have HS:=Lh hs;have HR:=Lh hr;have h1:m≤2000:=hr.hi;have h2:500≤m:=hr.lo;have h3:ws.length≤500:=hr.n;have hn1:Value.int .i64 (IntKind.i64.wrap ((ws.length:Int)+1))=Value.int .i64 ((ws.length+1:Nat):Int):=by rw[IntWalk.i64_in _ (by omega),Int.natCast_add];rfl
 have HN1:=Lh hn1;clear hs hr hn1;go_enter Tryz.func135,Tryz.ntmps135;go_wp2_with fail;refine HC.out.mono ?_;rintro e w' ⟨rfl,rfl⟩;go_upto_region 5 with(fail);go_cut [8,9] from 23 to 29 (fun a8 a9 wx=>∃(Cb Eb:Nat),a8=.slice (some ⟨Cb,0,none⟩) (ws.length+1) (ws.length+1)∧a9=.slice (some ⟨Eb,0,none⟩) (ws.length+1) (ws.length+1)∧Hid (Cb≠Eb∧w.heap.size≤Cb∧w.heap.size≤Eb)∧Hid (IRow wx Cb 3 (List.replicate (ws.length+1) 0))∧Hid (IRow wx Eb 3 (List.replicate (ws.length+1) 0))∧Hid (Below w.heap.size w wx));case first=>
  refine Qav (fun _=>True) (fun _=>true) (by kernel_rfl) ?_;have HB0:Hid (Below w.heap.size w w.drew):=Lh bR.drew;generalize w.drew=wq at*;refine Qat (i:=0) (oi:=⟨some 23,Op.move (.tmp 7),3,_,_,_⟩) (v:=?_) rfl (by kernel_rfl) (by kernel_rfl) (by kernel_rfl) (by kernel_rfl) (by kernel_rfl) (fun _ _ _ h=>h) (by rfl) ?zq0 trivial ?zq1;(case zq0=>intro _ s;clear s;go_simp;(try with_reducible rfl));(all_goals try go_frame);refine Qat (i:=1) (oi:=⟨some 24,Op.binOp BinOp.add 3 (.tmp 23) (Operand.const (Value.int IntKind.i64 1)) 3,3,_,_,_⟩) (v:=?_) rfl (by kernel_rfl) (by kernel_rfl) (by kernel_rfl) (by kernel_rfl) (by kernel_rfl) (fun _ _ _ h=>h) (by rfl) ?zq2 trivial ?zq3;(case zq2=>intro _ s;clear s;go_simp;(try with_reducible rfl));(all_goals try go_frame);refine Qat (i:=3) (oi:=⟨some 26,Op.move (.tmp 7),3,_,_,_⟩) (v:=?_) rfl (by kernel_rfl) (by kernel_rfl) (by kernel_rfl) (by kernel_rfl) (by kernel_rfl) (fun _ _ _ h=>h) (by rfl) ?zq4 trivial ?zq5;(case zq4=>intro _ s;clear s;go_simp;(try with_reducible rfl));(all_goals try go_frame);refine Qat (i:=4) (oi:=⟨some 27,Op.binOp BinOp.add 3 (.tmp 26) (Operand.const (Value.int IntKind.i64 1)) 3,3,_,_,_⟩) (v:=?_) rfl (by kernel_rfl) (by kernel_rfl) (by kernel_rfl) (by kernel_rfl) (by kernel_rfl) (fun _ _ _ h=>h) (by rfl) ?zq6 trivial ?zq7;(case zq6=>intro _ s;clear s;go_simp;(try with_reducible rfl));(all_goals try go_frame);have hn1:=HN1.out;refine Qb8 (i:=2) (j:=5) (oi:=⟨some 25,Op.makeSlice 22 (.tmp 24) (.tmp 24),22,_,_,_⟩) (oj:=⟨some 28,Op.makeSlice 22 (.tmp 27) (.tmp 27),22,_,_,_⟩) (by kernel_rfl) rfl rfl (by rfl) (by rfl) (fun K hK=>?_) (fun K hK=>?_)
  ·refine Qd0 22 (.tmp 24) (.tmp 24) rfl 3 (.int .i64 0) 1 8 Tryz.underlying22 Qa8 (ws.length+1) hn1 hn1 (by omega) (by omega) ?_;refine hK _ _ (fun _=>trivial) ?_;clear hK K;(try go_frame);refine Qat (i:=6) (oi:=⟨some 8,Op.assign (.tmp 25),22,_,_,_⟩) (v:=?_) rfl (by kernel_rfl) (by kernel_rfl) (by kernel_rfl) (by kernel_rfl) (by kernel_rfl) (fun _ _ _ h=>h) (by rfl) ?zq8 trivial ?zq9;(case zq8=>intro _ s;clear s;go_simp;(try with_reducible rfl));(all_goals try go_frame);refine tD 5 ⟨some 28,Op.makeSlice 22 (.tmp 27) (.tmp 27),22,_,_,_⟩ rfl fun K hK=>?_
   refine Qd0 22 (.tmp 27) (.tmp 27) rfl 3 (.int .i64 0) 1 8 Tryz.underlying22 Qa8 (ws.length+1) hn1 hn1 (by omega) (by omega) ?_;refine hK _ _ (fun _=>trivial) ?_;clear hK K;(try go_frame);refine tD 7 ⟨some 9,Op.assign (.tmp 28),22,_,_,_⟩ rfl fun K hK=>?_
   go_simp;refine hK _ _ (fun _=>trivial) ?_;clear hK K;(try go_frame);have hr0:=Qbl wq (ws.length+1) 3;have hr1:=Qbl (wq.alloc (.cells (madeCells #[Value.int .i64 0] (ws.length+1)) 3)) (ws.length+1) 3;rw[World.size_alloc] at hr1;have hb1:Below wq.heap.size wq (wq.alloc (.cells (madeCells #[Value.int .i64 0] (ws.length+1)) 3)):=bR.alloc nL _;have hb2:Below (wq.alloc (.cells (madeCells #[Value.int .i64 0] (ws.length+1)) 3)).heap.size (wq.alloc (.cells (madeCells #[Value.int .i64 0] (ws.length+1)) 3)) _:=bR.alloc nL (.cells (madeCells #[Value.int .i64 0] (ws.length+1)) 3);refine Qap (by kernel_rfl) ?_ _;unfold Exit.then;go_wp2_with fail;go_meet;exact⟨wq.heap.size,wq.heap.size+1,rfl,rfl,Lh ⟨by omega,(by have:=HB0.out.size;omega),(by have:=HB0.out.size;omega)⟩,Lh (hr0.to hb2),Lh hr1,Lh (HB0.out.trans ((hb1.trans (hb2.mono (by simp))).mono HB0.out.size))⟩
  ·refine Qd0 22 (.tmp 27) (.tmp 27) rfl 3 (.int .i64 0) 1 8 Tryz.underlying22 Qa8 (ws.length+1) hn1 hn1 (by omega) (by omega) ?_;refine hK _ _ (fun _=>trivial) ?_;clear hK K;(try go_frame);refine tD 2 ⟨some 25,Op.makeSlice 22 (.tmp 24) (.tmp 24),22,_,_,_⟩ rfl fun K hK=>?_
   refine Qd0 22 (.tmp 24) (.tmp 24) rfl 3 (.int .i64 0) 1 8 Tryz.underlying22 Qa8 (ws.length+1) hn1 hn1 (by omega) (by omega) ?_;refine hK _ _ (fun _=>trivial) ?_;clear hK K;(try go_frame);refine tD 6 ⟨some 8,Op.assign (.tmp 25),22,_,_,_⟩ rfl fun K hK=>?_
   go_simp;refine hK _ _ (fun _=>trivial) ?_;clear hK K;(try go_frame);refine tD 7 ⟨some 9,Op.assign (.tmp 28),22,_,_,_⟩ rfl fun K hK=>?_
   go_simp;refine hK _ _ (fun _=>trivial) ?_;clear hK K;(try go_frame);have hr0:=Qbl wq (ws.length+1) 3;have hr1:=Qbl (wq.alloc (.cells (madeCells #[Value.int .i64 0] (ws.length+1)) 3)) (ws.length+1) 3;rw[World.size_alloc] at hr1;have hb1:Below wq.heap.size wq (wq.alloc (.cells (madeCells #[Value.int .i64 0] (ws.length+1)) 3)):=bR.alloc nL _;have hb2:Below (wq.alloc (.cells (madeCells #[Value.int .i64 0] (ws.length+1)) 3)).heap.size (wq.alloc (.cells (madeCells #[Value.int .i64 0] (ws.length+1)) 3)) _:=bR.alloc nL (.cells (madeCells #[Value.int .i64 0] (ws.length+1)) 3);refine Qap (by kernel_rfl) ?_ _;unfold Exit.then;go_wp2_with fail;go_meet;exact⟨wq.heap.size+1,wq.heap.size,rfl,rfl,Lh ⟨by omega,(by have:=HB0.out.size;omega),(by have:=HB0.out.size;omega)⟩,Lh hr1,Lh (hr0.to hb2),Lh (HB0.out.trans ((hb1.trans (hb2.mono (by simp))).mono HB0.out.size))⟩
 case rest=>
  obtain⟨Cb,Eb,rfl,rfl,HNE,HCR,HER,HBc⟩:=hcut;clear HC HN1;go_wp2_with fail;go_loopw [10] (fun z wr=>∃(k:Nat) (i1:Nat),z=.int .i64 ((i1:Int)-1)∧Hid (i1+k=ws.length)∧Hid (IRow wr Cb 3 (List.replicate i1 0++(bestL ws m k).map (·.1)))∧Hid (IRow wr Eb 3 (List.replicate i1 0++(bestL ws m k).map (fun x=>(x.2:Int))))∧Hid (Below w.heap.size w wr)) (fun z _=>(intOf z+1).toNat);(case atStart=>exact⟨0,ws.length,rfl,Lh (by omega),Lh (by rw[←rowC_start];exact HCR.out),Lh (by rw[←rowE_start];exact HER.out),HBc⟩);case round=>
   clear HCR HER HBc;obtain⟨k,i1,rfl,HIK,HCR,HER,HBw⟩:=hrel;by_cases hz:i1=0
   ·subst hz;have HKN:Hid (k=ws.length):=Lh (by have:=HIK.out;omega);have HE0:Hid (IRow wr Eb 3 ((bestL ws m ws.length).map (fun x=>(x.2:Int)))):=Lh (by have:=HER.out;rw[HKN.out] at this;exact this);clear HER HCR HKN HIK;rw[show((0:Nat):Int)-1= -1 from rfl];go_wp2_with fail;obtain⟨wo,rfl⟩:∃wo:World,wo=wr:=⟨_,rfl⟩;go_loopw [13,14] (fun v vi wq=>∃(f a:Nat) (dn:List Nat),vi=.int .i64 (a:Int)∧a≤ws.length∧Hid (ws.length-a≤f)∧Hid (endsP ws m=dn++chainE ((bestL ws m ws.length).map (·.2)) ws.length f a)∧Hid (dn.length≤a)∧Hid (Own wq wo.heap.size 3 v (dn.map (fun(n:Nat)=>(n:Int))))∧Hid (Below wo.heap.size wo wq)) (fun _ vi _=>ws.length-(intOf vi).toNat);(case atStart=>exact⟨ws.length,0,[],rfl,Nat.zero_le _,Lh (by omega),Lh rfl,Lh (Nat.zero_le _),Lh (Own.nil _ _ _),Lh bR⟩);case round=>
     obtain⟨f,a,dn,rfl,han,HF,HEN,HDL,HO,HBq⟩:=hrel;by_cases hlt:a<ws.length
     ·have hai:(a:Int)<(ws.length:Int):=by omega
      have ha0:(0:Int)≤(a:Int):=(by omega);obtain⟨f',rfl⟩:∃f',f=f'+1:=⟨f-1,by have:=HF.out;omega⟩;have HEA:=Lh (bestAt_end HR.out a hlt);have HNX:Hid (endsP ws m=(dn++[(bestAt ws m a).2])++chainE ((bestL ws m ws.length).map (·.2)) ws.length f' (bestAt ws m a).2):=Lh (by rw[HEN.out,chain_at ws m a f' hlt];simp);have HE1:=Lh (HE0.out.to HBq.out);have c0:wr.cell? ⟨Eb,a,none⟩=some (.int .i64 ((bestAt ws m a).2:Int)):=HE1.out.cell a (ends_at ws m a hlt);generalize (bestAt ws m a).2=en at*;have hba:Below wr.heap.size wr (wr.alloc (.cells #[.int .i64 (en:Int)] 3)):=bR.alloc nL _;have HO2:=Lh (HO.out.below hba);have HBA:=Lh hba;have HI:Hid (I64 (en:Int)):=Lh (by have:=HEA.out;unfold I64;omega);have HLD:Hid (dn.length≤500):=Lh (by have:=HDL.out;omega)
      have HCE:Hid (∀W,Below wo.heap.size wo W→W.cell? ⟨Eb,a,none⟩=some (.int .i64 (en:Int))):=Lh (fun W hW=>by
       have h1:=c0
       have h2:=HE0.out.lt
       exact((hW.cell (p:=⟨Eb,a,none⟩) h2).trans ((HBq.out.cell (p:=⟨Eb,a,none⟩) h2).symm)).trans h1)
      clear hba
      go_upto_region 21 with(first|(at_builtin;refine Qau (α:=Int) _ rfl (.tmp 105) (.tmp 110) 22 rfl wo.heap.size 3 (.int .i64 0) 8 Tryz.underlying22 Qa8 rfl (by decide) u13 (dn.map (fun(n:Nat)=>(n:Int))) rfl HO2.out wr.heap.size #[.int .i64 (en:Int)] (en:Int) (0,0) 3 rfl (heap_alloc_new wr _) ⟨rfl,HI.out⟩ (by have:=HLD.out;rw[qM];omega) (by have:=HLD.out;rw[qM];omega) (by have:=HBq.out.size;simp;omega) _ rfl ?_;intro g5 p5 w5 hown5 hg5 hat5 hlt5)|fail)
      have hb5:Below wo.heap.size wo w5:=Qb7 HBq.out HO.out HBq.out.size hg5;have HO5:=Lh hown5;have HB5:=Lh hb5;have c5:=HCE.out w5 hb5;clear hb5 hown5 hg5 hat5 hlt5 c0 HCE;go_wp2_with fail;go_roundw;(case rel=>exact⟨f',en,dn++[en],rfl,by have:=HEA.out;omega,Lh (by have:=HEA.out;have:=HF.out;omega),HNX,Lh (by have:=HEA.out;have:=HDL.out;simp;omega),Lh (by have:=HO5.out;rw[qM] at this;rw[List.map_append];exact this),HB5⟩);case measure=>(have hx1:=HEA.out;simp[intOf];omega)
     ·have hai:¬(a:Int)<(ws.length:Int):=by omega
      have HFN:Hid (endsP ws m=dn):=Lh (by
       have e:chainE ((bestL ws m ws.length).map (·.2)) ws.length f a=[]:=by
        cases f with
        |zero=>rfl
        |succ f=>rw[chainE,if_neg hlt]
       rw[HEN.out,e,List.append_nil])
      have HBz:=Lh (HBw.out.trans (HBq.out.mono HBw.out.size));have HOz:=Lh (HO.out.re HBw.out.size);go_wp2_with fail;go_ret2;exact⟨_,rfl,by rw[HFN.out];exact HOz.out,HBz.out⟩
   ·obtain⟨i,rfl⟩:∃i,i1=i+1:=⟨i1-1,by omega⟩;have hi0:(0:Int)≤(i:Int):=(by omega);have hi5:(i:Int)<500:=(by have:=HIK.out;omega);have hi6:(i:Int)<(ws.length:Int):=(by have:=HIK.out;omega);have hii:((i+1:Nat):Int)-1=(i:Int):=(by omega);rw[hii];clear hii hz;have HIN:Hid (i+1+k=ws.length):=HIK;have HC0:Hid (IRow wr Cb 3 (rowC ws m k i 0)):=Lh (by unfold rowC;rw[←row_open];exact HCR.out);have HE0:Hid (IRow wr Eb 3 (rowE ws m k i 0)):=Lh (by unfold rowE;rw[←row_open];exact HER.out);clear HIK HCR HER;obtain⟨wo,rfl⟩:∃wo:World,wo=wr:=⟨_,rfl⟩;go_wp2_with fail;go_step3;go_wp2_with fail;go_step3;go_wp2_with fail;go_loopw [11,12] (fun vs vj ww=>∃(d p:Nat) (s:Int) (cur:Int × Nat),vs=.int .i64 s∧vj=.int .i64 ((p:Int)+1)∧Hid (p=i+d∧p<ws.length)∧s≤2006∧0≤s∧Hid (scanE ws.length (ws.drop i) (bestL ws m k) (m+6) (i+1) true (0,0)=scanE ws.length (ws.drop p) ((bestL ws m k).drop d) s (p+1) (decide (d=0)) cur)∧Hid (0≤cur.1∧cur.1≤4100000*((k:Int)+1))∧Hid (IRow ww Cb 3 (rowC ws m k i cur.1))∧Hid (IRow ww Eb 3 (rowE ws m k i (cur.2:Int)))∧Hid (Below w.heap.size w ww)) (fun _ vj _=>(ws.length+1-(intOf vj).toNat));(case atStart=>exact⟨0,i,m+6,(0,0),rfl,rfl,Lh (by have:=HIN.out;omega),by omega,by omega,Lh rfl,Lh (by simp;omega),HC0,HE0,HBw⟩);case round=>
     clear HC0 HE0 HBw;obtain⟨d,p,s,cur,rfl,rfl,HP,hs1,hs2,HSC,HCB,HCR,HER,HBw⟩:=hrel;have hpl:p<ws.length:=HP.out.2;have hp0:(0:Int)≤(p:Int):=(by omega);have hpn:(p:Int)<(ws.length:Int):=(by omega);obtain⟨b,o,rfl,_,hbl,hok,hc⟩:=Qbr (HS.out.to HBw.out) hpl;have hx:=HR.out.w ws[p] (List.getElem_mem hpl);have HDR:Hid (ws.drop p=ws[p]::ws.drop (p+1)):=Lh (List.drop_eq_getElem_cons hpl);obtain⟨x,hxe⟩:∃x,ws[p]=x:=⟨_,rfl⟩;rw[hxe] at hc hx HDR;obtain⟨hx1,hx2⟩:=hx;clear hxe hok hbl;obtain⟨s2,hs2e⟩:∃s2,s-(x+6)=s2:=⟨_,rfl⟩;have hsa:s2≤2006:=(by omega);have hsb: -500≤s2:=(by omega);have HSE:=Lh hs2e;go_upto_block 4 with(fail);(try rw[hs2e]);clear hs2e hc;by_cases hneg:s2<0
     ·have HRES:Hid (scanE ws.length (ws.drop i) (bestL ws m k) (m+6) (i+1) true (0,0)=cur):=Lh (by rw[HSC.out,HDR.out];exact scanE_neg _ _ _ _ _ _ _ _ (by rw[HSE.out];exact hneg));go_wp2_with fail;apply_assumption;go_wp2_with fail;go_roundw;(case rel=>exact⟨k+1,i,by go_num,Lh (by have:=HIN.out;omega),Lh (by rw[←rowC_next HIN.out HRES.out];exact HCR.out),Lh (by rw[←rowE_next HIN.out HRES.out];exact HER.out),HBw⟩);case measure=>(first|(simp[intOf];done)|(simp[intOf];omega))
     ·have hnn:0≤s2:=by omega
      have HNN:Hid (¬s-(x+6)<0):=Lh (by rw[HSE.out];exact hneg);have c0:wr.cell? ⟨Cb,i,none⟩=some (.int .i64 cur.1):=HCR.out.cell i (row_at _ _ _);have f0:=HCR.out.fz i;by_cases hlast:p+1=ws.length
      ·have HRES:Hid (scanE ws.length (ws.drop i) (bestL ws m k) (m+6) (i+1) true (0,0)=(0,ws.length)):=Lh (by rw[HSC.out,HDR.out,hlast];exact scanE_last _ _ _ _ _ _ _ HNN.out);have hl1:(p:Int)+1=(ws.length:Int):=(by omega);have HE1:Hid (IRow (wr.setCell ⟨Cb,i,none⟩ (.int .i64 0)) Eb 3 (rowE ws m k i (cur.2:Int))):=Lh (HER.out.other (Ne.symm HNE.out.1) i (.int .i64 0));have c1:=HE1.out.cell i (row_at _ _ _);have f1:=HE1.out.fz i;have HC2:=Lh ((HCR.out.set i 0).other HNE.out.1 i (.int .i64 (ws.length:Int)));have HE2:=Lh (HE1.out.set i (ws.length:Int));have HB2:Hid (Below w.heap.size w ((wr.setCell ⟨Cb,i,none⟩ (.int .i64 0)).setCell ⟨Eb,i,none⟩ (.int .i64 (ws.length:Int)))):=Lh ((HBw.out.setCell (p:=⟨Cb,i,none⟩) HNE.out.2.1 _).setCell (p:=⟨Eb,i,none⟩) HNE.out.2.2 _);rw[show rowC ws m k i cur.1=List.replicate i 0++cur.1::(bestL ws m k).map (·.1) from rfl,row_set] at HC2;rw[show rowE ws m k i (cur.2:Int)=List.replicate i 0++(cur.2:Int)::(bestL ws m k).map (fun x=>(x.2:Int)) from rfl,row_set] at HE2;have HRC:=Lh (rowC_next HIN.out HRES.out);have HRE:=Lh (rowE_next HIN.out HRES.out);clear HE1 hlast;go_wp2_with fail;go_roundw;(case rel=>exact⟨k+1,i,by go_num,Lh (by have:=HIN.out;omega),Lh (by rw[←HRC.out];exact HC2.out),Lh (by rw[←HRE.out];exact HE2.out),HB2⟩);case measure=>(first|(simp[intOf];done)|(simp[intOf];omega))
      ·have hl1:¬(p:Int)+1=(ws.length:Int):=by omega
       have hl2:((p:Int)+1==(ws.length:Int))=false:=(by rw[beq_eq_false_iff_ne];omega);obtain⟨bd,hbd⟩:∃bd,(bestL ws m k)[d]? =some bd:=by
        have h:=Qbb ws m k;exact⟨_,qG (by have:=HP.out;have:=HIN.out;omega)⟩
       have hbb:=bestL_cost HR.out k bd (List.mem_of_getElem? hbd);have HHD:=Lh (head_drop _ _ _ hbd)
       have c2:wr.cell? ⟨Cb,p+1,none⟩=some (.int .i64 bd.1):=HCR.out.cell (p+1) (by
        have e:p+1=i+d+1:=(by have:=HP.out.1;omega)
        rw[e,show rowC ws m k i cur.1=List.replicate i 0++cur.1::(bestL ws m k).map (·.1) from rfl,row_behind,List.getElem?_map,hbd];rfl)
       have HBD:=Lh hbd;have hk5:(k:Int)≤500:=(by have:=HIN.out;omega);have hb0:0≤bd.1:=hbb.1;have hb1:bd.1≤2050000000:=(by have:=hbb.2;omega);have hbk:bd.1≤4100000*(k:Int):=hbb.2;obtain⟨cb,hcb⟩:∃x,bd.1=x:=⟨_,rfl⟩;rw[hcb] at c2 hb0 hb1 hbk;have HCBE:=Lh hcb;clear hcb hbd hbb;obtain⟨q,hq⟩:∃q,s2*s2=q:=⟨_,rfl⟩;have hq0:0≤q:=(by rw[←hq];exact Int.mul_nonneg hnn hnn);have hq1:q≤4024036:=(by rw[←hq];exact Int.mul_le_mul hsa hsa hnn (by omega));have HQ:=Lh hq;have hw1:IntKind.i64.wrap (s2*s2)=q:=(by rw[hq];exact IntWalk.i64_in _ (by omega));have hw2:IntKind.i64.wrap (q+cb)=q+cb:=IntWalk.i64_in _ (by omega);have HW1:=Lh hw1;clear hq
       have HST:Hid (scanE ws.length (ws.drop i) (bestL ws m k) (m+6) (i+1) true (0,0)=scanE ws.length (ws.drop (p+1)) ((bestL ws m k).drop (d+1)) s2 (p+1+1) false (if decide (d=0)=true∨q+cb≤cur.1 then(q+cb,p+1) else cur)):=Lh (by
        rw[HSC.out,HDR.out,scanE_step _ _ _ _ _ _ _ _ HNN.out (by omega),HSE.out,HHD.out,HQ.out,HCBE.out,List.tail_drop])
       by_cases hd0:d=0
       ·subst hd0;obtain rfl:p=i:=by have:=HP.out.1;omega
        go_upto_region 16 with(fail);go_quiet (fail);have hdn:Below wr.heap.size wr (wr.drewN nq):=Below.dn bR nq;have HCRn:=Lh (HCR.out.to hdn);have HERn:=Lh (HER.out.to hdn);have HBn:=Lh (HBw.out.trans (hdn.mono HBw.out.size));have c2n:(wr.drewN nq).cell? ⟨Cb,p+1,none⟩=some (.int .i64 cb):=c2;clear hdn c0 f0 c2;generalize World.drewN wr nq=wn at*;have c0:wn.cell? ⟨Cb,p,none⟩=some (.int .i64 cur.1):=HCRn.out.cell p (row_at _ _ _);have f0:=HCRn.out.fz p;have HE1:Hid (IRow (wn.setCell ⟨Cb,p,none⟩ (.int .i64 (q+cb))) Eb 3 (rowE ws m k p (cur.2:Int))):=Lh (HERn.out.other (Ne.symm HNE.out.1) p (.int .i64 (q+cb)));have c1:=HE1.out.cell p (row_at _ _ _);have f1:=HE1.out.fz p;have HC2:Hid (IRow ((wn.setCell ⟨Cb,p,none⟩ (.int .i64 (q+cb))).setCell ⟨Eb,p,none⟩ (.int .i64 ((p:Int)+1))) Cb 3 (rowC ws m k p (q+cb))):=Lh (by have:=(HCRn.out.set p (q+cb)).other HNE.out.1 p (.int .i64 ((p:Int)+1));rwa [show rowC ws m k p cur.1=List.replicate p 0++cur.1::(bestL ws m k).map (·.1) from rfl,row_set] at this);have HE2:Hid (IRow ((wn.setCell ⟨Cb,p,none⟩ (.int .i64 (q+cb))).setCell ⟨Eb,p,none⟩ (.int .i64 ((p:Int)+1))) Eb 3 (rowE ws m k p ((p+1:Nat):Int))):=Lh (by have:=HE1.out.set p ((p:Int)+1);rwa [show rowE ws m k p (cur.2:Int)=List.replicate p 0++(cur.2:Int)::(bestL ws m k).map (fun x=>(x.2:Int)) from rfl,row_set] at this);have HB2:Hid (Below w.heap.size w ((wn.setCell ⟨Cb,p,none⟩ (.int .i64 (q+cb))).setCell ⟨Eb,p,none⟩ (.int .i64 ((p:Int)+1)))):=Lh ((HBn.out.setCell (p:=⟨Cb,p,none⟩) HNE.out.2.1 _).setCell (p:=⟨Eb,p,none⟩) HNE.out.2.2 _);clear HE1;go_wp2_with fail;go_roundw;(case rel=>exact⟨0+1,p+1,s2,(q+cb,p+1),rfl,by go_num,Lh (by have:=HP.out;omega),hsa,hnn,Lh (by rw[HST.out,if_pos (by simp_all)];rfl),Lh (by simp only;omega),HC2,HE2,HB2⟩);case measure=>(first|(simp[intOf];done)|(simp[intOf];omega))
       ·have hpi:¬(p:Int)=(i:Int):=by have:=HP.out.1;omega
        have hpi2:((p:Int)==(i:Int))=false:=(by rw[beq_eq_false_iff_ne];exact hpi);have hpi3:((p:Int)+1==(i:Int)+1)=false:=(by rw[beq_eq_false_iff_ne];omega);by_cases hle:q+cb≤cur.1
        ·go_upto_region 16 with(fail);go_quiet (fail);have hdn:Below wr.heap.size wr (wr.drewN nq):=Below.dn bR nq;have HCRn:=Lh (HCR.out.to hdn);have HERn:=Lh (HER.out.to hdn);have HBn:=Lh (HBw.out.trans (hdn.mono HBw.out.size));have c2n:(wr.drewN nq).cell? ⟨Cb,p+1,none⟩=some (.int .i64 cb):=c2;clear hdn c0 f0 c2;generalize World.drewN wr nq=wn at*;have c0:wn.cell? ⟨Cb,i,none⟩=some (.int .i64 cur.1):=HCRn.out.cell i (row_at _ _ _);have f0:=HCRn.out.fz i;have HE1:Hid (IRow (wn.setCell ⟨Cb,i,none⟩ (.int .i64 (q+cb))) Eb 3 (rowE ws m k i (cur.2:Int))):=Lh (HERn.out.other (Ne.symm HNE.out.1) i (.int .i64 (q+cb)));have c1:=HE1.out.cell i (row_at _ _ _);have f1:=HE1.out.fz i;have HC2:Hid (IRow ((wn.setCell ⟨Cb,i,none⟩ (.int .i64 (q+cb))).setCell ⟨Eb,i,none⟩ (.int .i64 ((p:Int)+1))) Cb 3 (rowC ws m k i (q+cb))):=Lh (by have:=(HCRn.out.set i (q+cb)).other HNE.out.1 i (.int .i64 ((p:Int)+1));rwa [show rowC ws m k i cur.1=List.replicate i 0++cur.1::(bestL ws m k).map (·.1) from rfl,row_set] at this);have HE2:Hid (IRow ((wn.setCell ⟨Cb,i,none⟩ (.int .i64 (q+cb))).setCell ⟨Eb,i,none⟩ (.int .i64 ((p:Int)+1))) Eb 3 (rowE ws m k i ((p+1:Nat):Int))):=Lh (by have:=HE1.out.set i ((p:Int)+1);rwa [show rowE ws m k i (cur.2:Int)=List.replicate i 0++(cur.2:Int)::(bestL ws m k).map (fun x=>(x.2:Int)) from rfl,row_set] at this);have HB2:Hid (Below w.heap.size w ((wn.setCell ⟨Cb,i,none⟩ (.int .i64 (q+cb))).setCell ⟨Eb,i,none⟩ (.int .i64 ((p:Int)+1)))):=Lh ((HBn.out.setCell (p:=⟨Cb,i,none⟩) HNE.out.2.1 _).setCell (p:=⟨Eb,i,none⟩) HNE.out.2.2 _);clear HE1;go_wp2_with fail;go_roundw;(case rel=>exact⟨d+1,p+1,s2,(q+cb,p+1),rfl,by go_num,Lh (by have:=HP.out;omega),hsa,hnn,Lh (by rw[HST.out,if_pos (by simp_all)];rfl),Lh (by simp only;omega),HC2,HE2,HB2⟩);case measure=>(first|(simp[intOf];done)|(simp[intOf];omega))
        ·go_upto_region 16 with(fail);go_quiet (fail);have hdn:Below wr.heap.size wr (wr.drewN nq):=Below.dn bR nq;have HCRn:=Lh (HCR.out.to hdn);have HERn:=Lh (HER.out.to hdn);have HBn:=Lh (HBw.out.trans (hdn.mono HBw.out.size));have c2n:(wr.drewN nq).cell? ⟨Cb,p+1,none⟩=some (.int .i64 cb):=c2;clear hdn c0 f0 c2;generalize World.drewN wr nq=wn at*;go_wp2_with fail;go_roundw;(case rel=>exact⟨d+1,p+1,s2,cur,rfl,by go_num,Lh (by have:=HP.out;omega),hsa,hnn,Lh (by rw[HST.out,if_neg (by simp_all)];rfl),Lh (by have:=HCB.out;omega),HCRn,HERn,HBn⟩);case measure=>(first|(simp[intOf];done)|(simp[intOf];omega))
theorem mul1_any (k:Nat)(hk:k≤500)(w:World):Calls Tryz.prog 175 #[.int .u64 1,.int .u64 (k:Int)] w fun e w'=>e=.returned (.tuple #[.int .u64 0,.int .u64 (k:Int)])∧w=w':=by
 have h:=Tryz.bits_Mul 1 k (by decide) (by omega) w;have e1:1*k/18446744073709551616=0:=Nat.div_eq_of_lt (by omega);have e2:1*k%18446744073709551616=k:=by rw[Nat.one_mul];exact Nat.mod_eq_of_lt (by omega)
 rw[e1,e2] at h;refine h.mono ?_;rintro e w' ⟨rfl,rfl⟩;exact⟨rfl,rfl⟩
theorem wp_copy_own {P:Program}{w:World}{o:Oper}{a:Act}{K:Act→World→Prop}{Q:Exit→Act→World→Prop}(d s:Operand)(dT sT:TypeId) (ho:o.op=.call {callee:=.builtin .copy,args:=#[d,s],argTypes:=#[dT,sT]}) (elem:TypeId) (hu:P.underlying dT=some (.slice elem)) (hsz:(P.info? elem).map (·.size)=some 1) (g off dLen dCap:Nat) (ad:Addr) (sLen sCap:Nat) (hd:a.eval d=.slice (some ⟨g,off,none⟩) dLen dCap) (hs:a.eval s=.slice (some ad) sLen sCap) (cur:Array Value) (t:TypeId) (hg:w.heap[g]? =some (.cells cur t (0,0))) (cs:List Value) (hn:cs.length=Nat.min sLen dLen) (hsrc:∀j v,cs[j]? =some v→w.cell? (ad.add j)=some v) (hfit:off+cs.length≤cur.size) (h1:∀v∈cs,v.oneCell'=true) (h:K (a.put o.dst (goInt cs.length)) (w.setRow g (cur.toList.take off++(cs++cur.toList.drop (off+cs.length))).toArray)):o.wp P a w K Q:=by
 have hrun:=run_copy_row (P:=P) w dT sT o.type elem g off dLen dCap ad sLen sCap cur t cs hu hsz hg hn hsrc hfit h1;unfold Oper.wp;simp[execOp,ho,resolve,invoke,builtin,hd,hs,hrun,Result.andThen];exact h
theorem rep_copy (x:Int)(n k c:Nat)(hn:n+c≤k):((((List.replicate n x++List.replicate (k-n) 0).map (Value.int .i64)).toArray.toList.take n)++(List.replicate c (Value.int .i64 x)++(((List.replicate n x++List.replicate (k-n) 0).map (Value.int .i64)).toArray.toList.drop (n+c)))).toArray=((List.replicate (n+c) x++List.replicate (k-(n+c)) 0).map (Value.int .i64)).toArray:=by
 congr 1;simp only[List.map_append,List.map_replicate];rw[List.take_append_of_le_length (by simp),List.take_of_length_le (by simp),List.drop_append,List.drop_of_length_le (by simp),List.nil_append,List.drop_replicate,List.length_replicate,←List.append_assoc,List.replicate_append_replicate];congr 2;omega
set_option maxRecDepth 100000 in
theorem repeat_any (b o c:Nat)(x:Int)(k:Nat)(hk1:1≤k)(hk:k≤500)(_hx:I64 x)(w:World)(hc:w.cell? ⟨b,o,none⟩=some (.int .i64 x)):
 Calls Tryz.prog 179 #[.slice (some ⟨b,o,none⟩) 1 c,.int .i64 (k:Int)] w fun e w'=>∃g,e=.returned (.slice (some ⟨g,0,none⟩) k k)∧w.heap.size≤g∧IRow w' g 3 (List.replicate k x)∧Below w.heap.size w w':=by
 have HM:=Lh (fun W=>mul1_any k hk W);have hk0:(0:Int)≤(k:Int):=by omega
 have hk5:(k:Int)≤500:=by omega
 have HC:=Lh hc;clear hc;go_enter Tryz.func179,Tryz.ntmps179;have HR0:Hid (IRow (w.alloc (.cells (madeCells #[Value.int .i64 0] k) 3)) w.heap.size 3 (List.replicate k 0)):=Lh (Qbl w k _)
 have HSR:Hid (IRow ((w.alloc (.cells (madeCells #[Value.int .i64 0] k) 3)).setRow w.heap.size (Value.int .i64 x::List.replicate (k-1) (Value.int .i64 0)).toArray) w.heap.size 3 (List.replicate 1 x++List.replicate (k-1) 0)):=Lh (by
  unfold IRow ABox
  rw[setRow_heap _ _ _ _ _ _ HR0.out]
  simp[List.replicate])
 have HB1:Hid (Below w.heap.size w ((w.alloc (.cells (madeCells #[Value.int .i64 0] k) 3)).setRow w.heap.size (Value.int .i64 x::List.replicate (k-1) (Value.int .i64 0)).toArray)):=Lh (Qc9 (bR.alloc nL _) nL _)
 go_wp2_with (first
  |(go_at_call 175;refine(HM.out _).mono ?_;rintro e w' ⟨rfl,rfl⟩)
  |(refine QaY rfl 22 (.tmp 29) (.tmp 29) rfl 3 (.int .i64 0) 1 8 Tryz.underlying22 Qa8 k rfl rfl (by omega) (by omega) ?_)
  |(refine wpList_copy_own rfl (.tmp 31) (.tmp 32) 22 22 rfl 3 Tryz.underlying22 (by kernel_rfl) w.heap.size 0 k k ⟨b,o,none⟩ 1 c rfl rfl _ 3 HR0.out [.int .i64 x] (by show 1=Nat.min 1 k;exact(Nat.min_eq_left hk1).symm) (fun j v hv=>by
     have hj:j=0:=by
      rcases j with _|j
      ·rfl
      ·simp at hv
     subst hj
     simp at hv
     subst hv
     exact((Below.refl w.heap.size w).alloc nL _).cell (p:=⟨b,o,none⟩) (World.block_lt_of_cell? w _ HC.out) |>.trans HC.out) (by simpa using hk1) (fun v hv=>by simp at hv;subst hv;rfl) ?_)
  |fail)
 go_loopw [8] (fun v wr=>∃n:Nat,1≤n∧n≤k∧v=.int .i64 (n:Int)∧Hid (IRow wr w.heap.size 3 (List.replicate n x++List.replicate (k-n) 0))∧Hid (Below w.heap.size w wr)) (fun v _=>k-(intOf v).toNat);(case atStart=>exact⟨1,Nat.le_refl _,hk1,rfl,HSR,HB1⟩);case round=>
  clear HSR HB1 HR0;obtain⟨n,hn1,hn2,rfl,HR,HB⟩:=hrel;by_cases hlt:n<k
  ·have hnk:(n:Int)<(k:Int):=by omega
   have hn0:(0:Int)≤(n:Int):=(by omega);go_upto_region 9 with(fail);refine Qav (fun _=>True) (fun _=>true) (by kernel_rfl) ?_;have HRd:Hid (IRow wr.drew w.heap.size 3 (List.replicate n x++List.replicate (k-n) 0)):=Lh (HR.out.to bR.drew);have HBd:Hid (Below w.heap.size w wr.drew):=Lh (HB.out.trans bR.drew);clear HR HB;generalize wr.drew=wq at*;have hnk2:(n:Int)≤(k:Int):=(by omega);have hnk3:n≤k:=(by omega);have hkn:¬k=n:=by omega
   refine Qat (i:=0) (oi:=⟨some 38,Op.move (.tmp 8),3,_,_,_⟩) (v:=?_) rfl (by kernel_rfl) (by kernel_rfl) (by kernel_rfl) (by kernel_rfl) (by kernel_rfl) (fun _ _ _ h=>h) (by rfl) ?zq0 trivial ?zq1;(case zq0=>intro _ s;clear s;go_simp;(try with_reducible rfl));(all_goals try go_frame);refine Qat (i:=1) (oi:=⟨some 39,Op.move (.tmp 7),22,_,_,_⟩) (v:=?_) rfl (by kernel_rfl) (by kernel_rfl) (by kernel_rfl) (by kernel_rfl) (by kernel_rfl) (fun _ _ _ h=>h) (by rfl) ?zq2 trivial ?zq3;(case zq2=>intro _ s;clear s;go_simp;(try with_reducible rfl));(all_goals try go_frame);refine Qat (i:=2) (oi:=⟨some 40,Op.move (.tmp 8),3,_,_,_⟩) (v:=?_) rfl (by kernel_rfl) (by kernel_rfl) (by kernel_rfl) (by kernel_rfl) (by kernel_rfl) (fun _ _ _ h=>h) (by rfl) ?zq4 trivial ?zq5;(case zq4=>intro _ s;clear s;go_simp;(try with_reducible rfl));(all_goals try go_frame);refine Qat (i:=3) (oi:=⟨some 41,Op.slice 22 (.tmp 39) (some (.tmp 40)) none none,22,_,_,_⟩) (v:=?_) rfl (by kernel_rfl) (by kernel_rfl) (by kernel_rfl) (by kernel_rfl) (by kernel_rfl) (fun _ _ _ h=>h) (by rfl) ?zq6 trivial ?zq7;(case zq6=>intro _ s;clear s;go_simp;(try with_reducible rfl));(all_goals try go_frame);refine Qat (i:=4) (oi:=⟨some 42,Op.move (.tmp 7),22,_,_,_⟩) (v:=?_) rfl (by kernel_rfl) (by kernel_rfl) (by kernel_rfl) (by kernel_rfl) (by kernel_rfl) (fun _ _ _ h=>h) (by rfl) ?zq8 trivial ?zq9;(case zq8=>intro _ s;clear s;go_simp;(try with_reducible rfl));(all_goals try go_frame);refine Qat (i:=5) (oi:=⟨some 43,Op.move (.tmp 8),3,_,_,_⟩) (v:=?_) rfl (by kernel_rfl) (by kernel_rfl) (by kernel_rfl) (by kernel_rfl) (by kernel_rfl) (fun _ _ _ h=>h) (by rfl) ?zq10 trivial ?zq11;(case zq10=>intro _ s;clear s;go_simp;(try with_reducible rfl));(all_goals try go_frame);refine Qat (i:=6) (oi:=⟨some 44,Op.slice 22 (.tmp 42) none (some (.tmp 43)) none,22,_,_,_⟩) (v:=?_) rfl (by kernel_rfl) (by kernel_rfl) (by kernel_rfl) (by kernel_rfl) (by kernel_rfl) (fun _ _ _ h=>h) (by rfl) ?zq12 trivial ?zq13;(case zq12=>intro _ s;clear s;go_simp;(try with_reducible rfl));(all_goals try go_frame);obtain⟨cn,hcn⟩:∃cn,cn=min n (k-n):=⟨_,rfl⟩;have hcn1:n+cn≤k:=(by omega);have hcn2:1≤cn:=(by omega);have hcn3:cn≤n:=(by omega);have HCN:=Lh hcn;clear hcn;have hw1:IntKind.i64.wrap ((n:Int)+(cn:Int))=(n:Int)+(cn:Int):=IntWalk.i64_in _ (by omega);refine tD 7 ⟨some 45,Op.call {callee:=Callee.builtin Builtin.copy,args:=#[Operand.tmp 41,Operand.tmp 44],argTypes:=#[22,22]},3,_,_,_⟩ rfl fun K hK=>?_
   refine wp_copy_own (.tmp 41) (.tmp 44) 22 22 rfl 3 Tryz.underlying22 (by kernel_rfl) w.heap.size n (k-n) (k-n) ⟨w.heap.size,0,none⟩ n k ?_ ?_ _ 3 HRd.out (List.replicate cn (.int .i64 x)) (by rw[List.length_replicate,HCN.out]) (fun j v hv=>?_) (by first|(simp;done)|(simp;omega)) (fun v hv=>by rw[List.eq_of_mem_replicate hv];rfl) ?_
   ·rfl
   ·rfl
   ·obtain⟨hj,hv2⟩:=List.getElem?_eq_some_iff.1 hv;rw[List.length_replicate] at hj;have e:v=.int .i64 x:=(by rw[←hv2];simp);rw[e,Addr.add_mid,Nat.zero_add];exact HRd.out.cell j (by rw[List.getElem?_append_left (by simp;omega),List.getElem?_replicate,if_pos (by omega)])
   rw[List.length_replicate,rep_copy x n k cn hcn1];have hq7:goInt cn=.int .i64 (cn:Int):=rfl;rw[hq7];refine hK _ _ (fun _=>trivial) ?_;clear hK K hq7;(try go_frame);have HRN:Hid (IRow (wq.setRow w.heap.size ((List.replicate (n+cn) x++List.replicate (k-(n+cn)) 0).map (Value.int .i64)).toArray) w.heap.size 3 (List.replicate (n+cn) x++List.replicate (k-(n+cn)) 0)):=Lh (setRow_heap _ _ _ _ _ _ HRd.out);have HBN:Hid (Below w.heap.size w (wq.setRow w.heap.size ((List.replicate (n+cn) x++List.replicate (k-(n+cn)) 0).map (Value.int .i64)).toArray)):=Lh (Qc9 HBd.out nL _);generalize wq.setRow w.heap.size ((List.replicate (n+cn) x++List.replicate (k-(n+cn)) 0).map (Value.int .i64)).toArray=wn at*;refine tD 8 ⟨some 46,Op.binOp BinOp.add 3 (.tmp 38) (.tmp 45) 3,3,_,_,_⟩ rfl fun K hK=>?_
   go_simp;refine hK _ _ (fun _=>trivial) ?_;clear hK K;(try go_frame);refine tD 9 ⟨some 8,Op.assign (.tmp 46),3,_,_,_⟩ rfl fun K hK=>?_
   go_simp;refine hK _ _ (fun _=>trivial) ?_;clear hK K;(try go_frame);refine Qap (by kernel_rfl) ?_ _;(try unfold Exit.then);go_wp2_with fail;go_roundw;(case rel=>exact⟨n+cn,by omega,hcn1,by go_num,HRN,HBN⟩);case measure=>(first|(simp[intOf];done)|(simp[intOf];omega))
  ·obtain rfl:n=k:=by omega
   go_wp2_with fail;go_ret;exact⟨w.heap.size,rfl,Nat.le_refl _,by have:=HR.out;rwa [Nat.sub_self,List.replicate_zero,List.append_nil] at this,HB.out⟩
end Go.Proofs.YtegaapiocihcpaaGreatDoor
