/- Texts of BookC9. -/
import Derived.Test.YtakaielemicpkaaGreatDoorBZe14
import Derived.Deep.Slices
import Derived.Deep.Fields
import Derived.ChangeSame
import Derived.ChangeMaps5
import Derived.OpenShut
set_option maxHeartbeats 16000000
namespace Go.Proofs.YtakaielemicpkaaGreatDoor
open Go.RowKit
set_option maxRecDepth 100000 in
theorem chk_any {m h:Int} {l:List SectP} (A:Option Addr) (c:Nat) (w:World) (hT:Laid w) (hs:Sl w (fun b=>b<w.heap.size) A c l) (hsh:ShortS l) (hI:I64 h) (hpn:(∀s∈l,s.vers.length=s.texts.length)→(pagesB m h l).length≤1000000000):
 Calls Tryz.prog 24 #[.agg #[.int .i64 m,.int .i64 h,.slice A l.length c]] w fun e w'=>e=.returned (.int .i64 (chkE m h l))∧Below w.heap.size w w':=by
 obtain⟨n,hn⟩:∃n,l.length=n:=⟨_,rfl⟩;obtain⟨wb,hwb⟩:∃wb,w.alloc (.cells #[.int .i64 m,.int .i64 h,.slice A n c] 27)=wb:=⟨_,rfl⟩;have hba:Below w.heap.size w wb:=by rw[←hwb];exact(Below.refl _ _).alloc (Nat.le_refl _) _
 have hx0:ABox wb w.heap.size 27 [.int .i64 m,.int .i64 h,.slice A n c]:=by rw[←hwb];exact heap_alloc_new w _
 have hnc:n≤c:=by rw[←hn];exact hs.1
 have hn9:n≤1048576:=by rw[←hn];exact hsh.1
 have HS:=Lh (hs.to hba);have HTB:=Lh (hT.to hba);have HSH:=Lh hsh;have HI:=Lh hI;have HPN:=Lh hpn;have HN:=Lh hn;have HBA:=Lh hba;have HX0:=Lh hx0;have HW1:=Lh (within_any m 500 2000 wb);have HW2:=Lh (within_any h 4 100 wb);rw[hn];clear hs hT hn hba hx0 hsh hpn hI;go_enter Tryz.func24,Tryz.ntmps24;go_upto_region 1 with(fail);(try rw[hwb]);clear hwb;have x0:=HX0.out.cell 0 rfl;have x1:=HX0.out.cell 1 rfl;have x2:=HX0.out.cell 2 rfl;go_wp2_with fail;refine HW1.out.mono ?_;rintro e w1 ⟨rfl,rfl⟩;by_cases hm:500≤m∧m≤2000;case neg=>
  have HE:Hid (chkE m h l=5):=Lh (by unfold chkE;rw[if_pos hm]);rw[decide_eq_false hm];clear hm;go_wp2_with fail;go_ret;exact⟨by rw[HE.out];rfl,HBA.out⟩
 have HM:=Lh hm;rw[decide_eq_true hm];clear hm;go_wp2_with fail;refine HW2.out.mono ?_;rintro e w1 ⟨rfl,rfl⟩;by_cases hh:4≤h∧h≤100;case neg=>
  have HE:Hid (chkE m h l=5):=Lh (by unfold chkE;rw[if_neg (not_not_intro HM.out),if_pos hh]);rw[decide_eq_false hh];clear hh;go_wp2_with fail;go_ret;exact⟨by rw[HE.out];rfl,HBA.out⟩
 have HHH:=Lh hh;rw[decide_eq_true hh];clear hh;go_wp2_with fail;clear x0 x1 x2;go_loopw [3,20] (fun o i wr=>∃(k:Nat) (ob:Bool),k≤n∧i=.int .i64 k∧o=.bool ob∧Hid (openB l k=ob)∧Hid (UptoS m h l k)∧Below wb.heap.size wb wr) (fun _ i _=>n-(intOf i).toNat);(case atStart=>exact⟨0,false,by omega,rfl,rfl,Lh rfl,Lh (fun j _ hj=>absurd hj (Nat.not_lt_zero _)),Below.refl _ _⟩);case round=>
  obtain⟨k,ob,hk,rfl,rfl,HOB,HU,hbl⟩:=hrel;by_cases hlt:k<n
  ·have hkl:k<l.length:=by rw[HN.out];exact hlt
   obtain⟨b,o,Ag,cg,An,cn,rfl,-,hbb,e0,e1,e2,e3,hg1,hn1,-⟩:=sect_at (HS.out.to hbl) hkl;have HH:Hid (secX m h l k l[k]≠0→chkE m h l=secX m h l k l[k]):=Lh (fun h0=>HU.out.hit hkl h0 HM.out HHH.out);have HNx:Hid (secX m h l k l[k]=0→UptoS m h l (k+1)):=Lh (fun h0=>HU.out.next hkl h0);have HON:Hid (openB l (k+1)=(openB l k|| !l[k].frozen)):=Lh (openB_next l hkl);have hshx:=HSH.out.2 _ (List.getElem_mem hkl);obtain⟨x,hx⟩:∃x,l[k]=x:=⟨_,rfl⟩;rw[hx] at e0 e1 e2 e3 hg1 hn1 HH HNx HON hshx;obtain⟨nv,hnv⟩:∃nv,x.vers.length=nv:=⟨_,rfl⟩;obtain⟨nt,hnt⟩:∃nt,x.texts.length=nt:=⟨_,rfl⟩;obtain⟨fr,hfr⟩:∃fr,x.frozen=fr:=⟨_,rfl⟩;rw[hnv] at e2;rw[hnt] at e3;rw[hfr] at e1;have hv9:nv≤1048576:=(by rw[←hnv];exact hshx.1);have ht9:nt≤1048576:=(by rw[←hnt];exact hshx.2.1);have HSX:=Lh hshx;have HNV:=Lh hnv;have HNT:=Lh hnt;have HFR:=Lh hfr;obtain⟨X,hX⟩:∃X,wr.heap.size=X:=⟨_,rfl⟩;obtain⟨w2,hw2⟩:∃w2,wr.alloc (.cells #[.int .i64 x.entry,.bool fr,.slice Ag nv cg,.slice An nt cn] 45)=w2:=⟨_,rfl⟩;have hb2:Below wr.heap.size wr w2:=(by rw[←hw2];exact(Below.refl _ _).alloc (Nat.le_refl _) _);have hxx:ABox w2 X 45 [.int .i64 x.entry,.bool fr,.slice Ag nv cg,.slice An nt cn]:=(by rw[←hw2,←hX];exact heap_alloc_new wr _);have HB2:=Lh (hbl.trans (hb2.mono hbl.size));have HBE2:=Lh (HBA.out.trans (HB2.out.mono HBA.out.size));have HX2:=Lh (HX0.out.to HB2.out);have HXX:=Lh hxx;have HV2:=Lh (hg1.to hb2);have HT2:=Lh (hn1.to hb2);have hkI:(k:Int)<(n:Int):=(by omega);have hwi:=within_any x.entry 0 65535 w2;have hfd:=find_any (some ⟨b,o,none⟩) c l m h x.entry w2 (HS.out.to HB2.out) (by rw[HN.out];omega);rw[HN.out] at hfd;have HFD:=Lh hfd;clear hx hnv hnt hfr hg1 hn1 hkl hfd hshx HU;by_cases hr:0≤x.entry∧x.entry≤65535;case neg=>
    have HE:Hid (chkE m h l=5):=Lh (by
     have e:secX m h l k x=5:=(by unfold secX;rw[if_pos hr])
     rw[HH.out (by rw[e];decide),e])
    rw[decide_eq_false hr] at hwi;have HWI:=Lh hwi;clear hwi hr;go_upto_region 7 with(fail);(try rw[hX]);(try rw[hw2]);clear hX hw2 hb2 hxx hbl e0 e1 e2 e3;have p0:=HXX.out.cell 0 rfl;go_wp2_with fail;refine HWI.out.mono ?_;rintro e w3 ⟨rfl,rfl⟩;go_wp2_with fail;go_ret;exact⟨by rw[HE.out];rfl,HBE2.out⟩
   rw[decide_eq_true hr] at hwi;have HWI:=Lh hwi;have HR:=Lh hr;clear hwi hr;go_upto_region 7 with(fail);(try rw[hX]);(try rw[hw2]);clear hX hw2 hb2 hxx hbl e0 e1 e2 e3;have p0:=HXX.out.cell 0 rfl;go_wp2_with fail;refine HWI.out.mono ?_;rintro e w3 ⟨rfl,rfl⟩;have x0:=HX2.out.cell 0 rfl;have x1:=HX2.out.cell 1 rfl;have x2:=HX2.out.cell 2 rfl;go_wp2_with fail;refine HFD.out.mono ?_;rintro e w3 ⟨rfl,hb3⟩;have HB3:=Lh (HB2.out.trans (hb3.mono HB2.out.size));have HBE3:=Lh (HBA.out.trans (HB3.out.mono HBA.out.size));have HXX3:=Lh (HXX.out.to hb3);have HX3:=Lh (HX2.out.to hb3);have HV3:=Lh (HV2.out.to hb3);have HT3:=Lh (HT2.out.to hb3);clear hb3 p0 x0 x1 x2;have p0:=HXX3.out.cell 0 rfl;have p1:=HXX3.out.cell 1 rfl;have p2:=HXX3.out.cell 2 rfl;have p3:=HXX3.out.cell 3 rfl;have x0:=HX3.out.cell 0 rfl;have x1:=HX3.out.cell 1 rfl;have x2:=HX3.out.cell 2 rfl;obtain⟨F,hF⟩:∃F,findP l x.entry=F:=⟨_,rfl⟩;by_cases hd:F<(k:Int);case pos=>
    have HE:Hid (chkE m h l=4):=Lh (by
     have e:secX m h l k x=4:=(by unfold secX;rw[if_neg (not_not_intro HR.out),if_pos (by rw[hF];exact hd)])
     rw[HH.out (by rw[e];decide),e])
    rw[hF];clear hF;go_wp2_with fail;go_ret;exact⟨by rw[HE.out];rfl,HBE3.out⟩
   have HD:Hid (¬findP l x.entry<(k:Int)):=Lh (by rw[hF];exact hd);rw[hF];clear hF;by_cases ho:fr=true∧ob=true
   ·have HE:Hid (chkE m h l=12):=Lh (by
     have e:secX m h l k x=12:=(by unfold secX;rw[if_neg (not_not_intro HR.out),if_neg HD.out,if_pos ⟨HFR.out.trans ho.1,HOB.out.trans ho.2⟩])
     rw[HH.out (by rw[e];decide),e])
    obtain⟨rfl,rfl⟩:=ho;go_wp2_with fail;go_ret;exact⟨by rw[HE.out];rfl,HBE3.out⟩
   have HO:Hid (¬(x.frozen=true∧openB l k=true)):=Lh (by rw[HFR.out,HOB.out];exact ho);by_cases ha:nv=0∨nv≠nt∨(1<nv∧fr=false)
   ·have HE:Hid (chkE m h l=1):=Lh (by
     have e:secX m h l k x=1:=by
      unfold secX
      rw[if_neg (not_not_intro HR.out),if_neg HD.out,if_neg HO.out,HNV.out,HNT.out,HFR.out,if_pos ha]
     rw[HH.out (by rw[e];decide),e])
    have hcs:((fr=true∧ob=false)∨(fr=false∧ob=false)∨(fr=false∧ob=true)):=by
     cases fr<;>cases ob<;>simp_all
    clear HO ho HH HNx HON;by_cases h0:nv=0
    ·subst h0;have HCS:=Lh hcs;clear ha hcs;rcases HCS.out with⟨rfl,rfl⟩|⟨rfl,rfl⟩|⟨rfl,rfl⟩;all_goals
      clear HCS;go_wp2_with fail;go_ret;exact⟨by rw[HE.out];rfl,HBE3.out⟩
    have hI0:¬(nv:Int)=0:=(by omega);by_cases h1:nv≠nt
    ·have hI1:¬(nv:Int)=(nt:Int):=by omega
     have HCS:=Lh hcs;clear ha hcs h1 h0;rcases HCS.out with⟨rfl,rfl⟩|⟨rfl,rfl⟩|⟨rfl,rfl⟩;all_goals
      clear HCS;go_wp2_with fail;go_ret;exact⟨by rw[HE.out];rfl,HBE3.out⟩
    obtain rfl:nv=nt:=Decidable.not_not.1 h1;have h2:1<nv∧fr=false:=by
     rcases ha with h|h|h
     ·exact absurd h h0
     ·exact absurd rfl h
     ·exact h
    obtain⟨h3,rfl⟩:=h2;have hI1:(1:Int)<(nv:Int):=(by omega);clear ha hcs h1 h0;cases ob;all_goals
     go_wp2_with fail;go_ret;exact⟨by rw[HE.out];rfl,HBE3.out⟩
   have h0:nv≠0:=fun e=>ha (.inl e)
   have h1:nv=nt:=Decidable.not_not.1 fun e=>ha (.inr (.inl e))
   subst h1;have h2:¬(1<nv∧fr=false):=fun e=>ha (.inr (.inr e))
   have HA:Hid (¬(x.vers.length=0∨x.vers.length≠x.texts.length∨(1<x.vers.length∧x.frozen=false))):=Lh (by rw[HNV.out,HNT.out,HFR.out];exact ha);have hI0:¬(nv:Int)=0:=(by omega);clear ha;by_cases h100:100<nv
   ·have HE:Hid (chkE m h l=2):=Lh (by
     have e:secX m h l k x=2:=by
      unfold secX
      rw[if_neg (not_not_intro HR.out),if_neg HD.out,if_neg HO.out,if_neg HA.out,if_pos (by rw[HNV.out];exact h100)]
     rw[HH.out (by rw[e];decide),e])
    obtain⟨rfl,rfl⟩:fr=true∧ob=false:=by cases fr<;>cases ob<;>simp_all<;>omega
    have hI1:(1:Int)<(nv:Int):=(by omega);have hI100:(100:Int)<(nv:Int):=(by omega);clear HO ho HH HNx HON h2;go_wp2_with fail;go_ret;exact⟨by rw[HE.out];rfl,HBE3.out⟩
   have hI100:¬(100:Int)<(nv:Int):=by omega
   have HSV:Hid (secX m h l k x=versE m h x):=Lh (by
    unfold secX
    rw[if_neg (not_not_intro HR.out),if_neg HD.out,if_neg HO.out,if_neg HA.out,if_neg (by rw[HNV.out];exact h100)])
   have hcv:=versE_any (m:=m) HI.out (some ⟨b,o,none⟩) n c x Ag An cg cn nv w3 (HTB.out.to HB3.out) HV3.out HT3.out HNV.out HNT.out HSX.out;obtain⟨E,hE⟩:∃E,versE m h x=E:=⟨_,rfl⟩;rw[HFR.out,hE] at hcv;rw[hE] at HSV;have HCV:=Lh hcv;have hcases:(fr=true∧ob=false∧1<nv)∨(fr=true∧ob=false∧nv=1)∨(fr=false∧ob=false∧nv=1)∨(fr=false∧ob=true∧nv=1):=by
    cases fr<;>cases ob<;>simp_all<;>omega
   have HCS:=Lh hcases;clear hE hcv hcases ho h2 h0 h100;rcases HCS.out with⟨rfl,rfl,h1⟩|⟨rfl,rfl,h1⟩|⟨rfl,rfl,h1⟩|⟨rfl,rfl,h1⟩
   ·have hI1:(1:Int)<(nv:Int):=by omega
    clear HCS;have HON2:Hid (openB l (k+1)=false):=Lh (by rw[HON.out,HOB.out,HFR.out];rfl);clear HON h1;go_wp2_with fail;refine HCV.out.mono ?_;rintro e w4 ⟨rfl,hb4⟩;have HB4:=Lh (HB3.out.trans (hb4.mono HB3.out.size));have HBE4:=Lh (HBA.out.trans (HB4.out.mono HBA.out.size));have p1:=(HXX3.out.to hb4).cell 1 rfl;clear hb4 x0 x1 x2;by_cases hE0:E=0
    ·subst hE0;have HU2:=Lh (HNx.out HSV.out);clear HH HNx;go_wp2_with fail;go_roundw;(case rel=>exact⟨k+1,_,by omega,by go_num,rfl,HON2,HU2,HB4.out⟩);case measure=>simp[intOf];omega
    ·have HE:Hid (chkE m h l=E):=Lh (by rw[HH.out (by rw[HSV.out];exact hE0),HSV.out]);have hEb:(E != 0)=true:=(by simpa using hE0);clear HH HNx;go_wp2_with fail;go_ret;exact⟨by rw[HE.out];rfl,HBE4.out⟩
   ·have hI1:¬(1:Int)<(nv:Int):=by omega
    clear HCS;have HON2:Hid (openB l (k+1)=false):=Lh (by rw[HON.out,HOB.out,HFR.out];rfl);clear HON h1;go_wp2_with fail;refine HCV.out.mono ?_;rintro e w4 ⟨rfl,hb4⟩;have HB4:=Lh (HB3.out.trans (hb4.mono HB3.out.size));have HBE4:=Lh (HBA.out.trans (HB4.out.mono HBA.out.size));have p1:=(HXX3.out.to hb4).cell 1 rfl;clear hb4 x0 x1 x2;by_cases hE0:E=0
    ·subst hE0;have HU2:=Lh (HNx.out HSV.out);clear HH HNx;go_wp2_with fail;go_roundw;(case rel=>exact⟨k+1,_,by omega,by go_num,rfl,HON2,HU2,HB4.out⟩);case measure=>simp[intOf];omega
    ·have HE:Hid (chkE m h l=E):=Lh (by rw[HH.out (by rw[HSV.out];exact hE0),HSV.out]);have hEb:(E != 0)=true:=(by simpa using hE0);clear HH HNx;go_wp2_with fail;go_ret;exact⟨by rw[HE.out];rfl,HBE4.out⟩
   ·have hI1:¬(1:Int)<(nv:Int):=by omega
    clear HCS;have HON2:Hid (openB l (k+1)=true):=Lh (by rw[HON.out,HOB.out,HFR.out];rfl);clear HON h1;go_wp2_with fail;refine HCV.out.mono ?_;rintro e w4 ⟨rfl,hb4⟩;have HB4:=Lh (HB3.out.trans (hb4.mono HB3.out.size));have HBE4:=Lh (HBA.out.trans (HB4.out.mono HBA.out.size));have p1:=(HXX3.out.to hb4).cell 1 rfl;clear hb4 x0 x1 x2;by_cases hE0:E=0
    ·subst hE0;have HU2:=Lh (HNx.out HSV.out);clear HH HNx;go_wp2_with fail;go_roundw;(case rel=>exact⟨k+1,_,by omega,by go_num,rfl,HON2,HU2,HB4.out⟩);case measure=>simp[intOf];omega
    ·have HE:Hid (chkE m h l=E):=Lh (by rw[HH.out (by rw[HSV.out];exact hE0),HSV.out]);have hEb:(E != 0)=true:=(by simpa using hE0);clear HH HNx;go_wp2_with fail;go_ret;exact⟨by rw[HE.out];rfl,HBE4.out⟩
   ·have hI1:¬(1:Int)<(nv:Int):=by omega
    clear HCS;have HON2:Hid (openB l (k+1)=true):=Lh (by rw[HON.out,HOB.out,HFR.out];rfl);clear HON h1;go_wp2_with fail;refine HCV.out.mono ?_;rintro e w4 ⟨rfl,hb4⟩;have HB4:=Lh (HB3.out.trans (hb4.mono HB3.out.size));have HBE4:=Lh (HBA.out.trans (HB4.out.mono HBA.out.size));have p1:=(HXX3.out.to hb4).cell 1 rfl;clear hb4 x0 x1 x2;by_cases hE0:E=0
    ·subst hE0;have HU2:=Lh (HNx.out HSV.out);clear HH HNx;go_wp2_with fail;go_roundw;(case rel=>exact⟨k+1,_,by omega,by go_num,rfl,HON2,HU2,HB4.out⟩);case measure=>simp[intOf];omega
    ·have HE:Hid (chkE m h l=E):=Lh (by rw[HH.out (by rw[HSV.out];exact hE0),HSV.out]);have hEb:(E != 0)=true:=(by simpa using hE0);clear HH HNx;go_wp2_with fail;go_ret;exact⟨by rw[HE.out];rfl,HBE4.out⟩
  ·obtain rfl:k=n:=by omega
   have HUA:Hid (UptoS m h l l.length):=Lh (by rw[HN.out];exact HU.out)
   have HEQ:Hid (∀s∈l,s.vers.length=s.texts.length):=Lh (fun s hs=>by
    obtain⟨i,hi,rfl⟩:=List.getElem_of_mem hs
    exact(secX_ok (HUA.out i hi hi)).nt)
   have hpl:=HPN.out HEQ.out;have hp:=pages_any (⟨HTB.out.to hbl,HS.out.to hbl,HSH.out,fun s hs=>by rw[HEQ.out s hs];exact Nat.le_refl _,HI.out,hpl⟩:BookOk wr m h A c l);rw[HN.out] at hp;have HP:=Lh hp;have HBL:=Lh hbl;have x0:=(HX0.out.to hbl).cell 0 rfl;have x1:=(HX0.out.to hbl).cell 1 rfl;have x2:=(HX0.out.to hbl).cell 2 rfl;have HPL:=Lh hpl;clear hp hbl hpl;go_wp2_with fail;refine HP.out.mono ?_;rintro e W3 ⟨v,R,rfl,ho,-,hb⟩;obtain⟨Ap,cp,rfl,-⟩:=ho.plain.sl;have HCE:=Lh (HUA.out.all HM.out HHH.out);obtain⟨P,hP⟩:∃P,(pagesB m h l).length=P:=⟨_,rfl⟩;have HBE:=Lh (HBA.out.trans ((HBL.out.trans (hb.mono HBL.out.size)).mono HBA.out.size));rw[hP] at HCE HPL;rw[hP];have hP9:P≤1000000000:=HPL.out;clear hP ho hb x0 x1 x2;by_cases h16:16384<P
   ·have HE:Hid (chkE m h l=2):=Lh (by rw[HCE.out,if_pos h16]);have hPI:(16384:Int)<(P:Int):=(by omega);go_wp2_with fail;go_ret;exact⟨by rw[HE.out];rfl,HBE.out⟩
   ·have HE:Hid (chkE m h l=0):=Lh (by rw[HCE.out,if_neg h16]);have hPI:¬(16384:Int)<(P:Int):=(by omega);go_wp2_with fail;go_ret;exact⟨by rw[HE.out];rfl,HBE.out⟩
theorem GBk.pre {m h:Int} {l:List SectP} (H:GBk m h l):∀s∈l,PreX s:=fun s hs=>by
 obtain⟨f,hf⟩:=H.chk;obtain⟨i,hi,rfl⟩:=List.getElem_of_mem hs;have hc:=hf i hi;exact⟨hc.n1,by have:=hc.n3;omega,hc.nt,fun t ht=>(hc.g t ht).short⟩
structure ActP where
 kind:Int
 entry:Int
 version:Int
 text:List Int
instance:Rep ActP where
 size:=4
 R w S cs x:=∃v,cs=[.int .i64 x.kind,.int .i64 x.entry,.int .i64 x.version,v]∧I64 x.kind∧I64 x.entry∧I64 x.version∧Rep.R w S [v] x.text
 len:=by rintro w S cs s ⟨v,rfl,_⟩;rfl
 one:=by
  rintro w S cs s ⟨v,rfl,_,_,_,ha⟩ u hu;have h1:=Rep.one ha v (by simp);simp at hu;rcases hu with rfl|rfl|rfl|rfl
  ·rfl
  ·rfl
  ·rfl
  ·exact h1
 keep:=by rintro w w' S cs s ⟨v,rfl,h1,h2,h3,ha⟩ hk;exact⟨v,rfl,h1,h2,h3,Rep.keep ha hk⟩
 mono:=by rintro w S S' cs s ⟨v,rfl,h1,h2,h3,ha⟩ hk;exact⟨v,rfl,h1,h2,h3,Rep.mono ha hk⟩
theorem act_at {w:World} {S:Nat→Prop} {A:Option Addr} {c:Nat} {l:List ActP} (h:Sl w S A c l) {k:Nat} (hk:k<l.length):
 ∃b o At ct,A=some ⟨b,o,none⟩∧S b∧b<w.heap.size∧w.cell? ⟨b,o+k*4,none⟩=some (.int .i64 l[k].kind)∧w.cell? ⟨b,o+k*4+1,none⟩=some (.int .i64 l[k].entry)∧ w.cell? ⟨b,o+k*4+2,none⟩=some (.int .i64 l[k].version)∧w.cell? ⟨b,o+k*4+3,none⟩=some (.slice At l[k].text.length ct)∧Sl w S At ct l[k].text∧I64 l[k].kind∧I64 l[k].entry∧I64 l[k].version:=by
 obtain⟨b,o,es,rfl,hb,hlt,⟨va,rfl,h1,h2,h3,⟨Ag,cg,e1,hg,_⟩⟩,hc⟩:=h.at_ hk;cases e1;exact⟨b,o,Ag,cg,rfl,hb,hlt,hc 0 _ rfl,hc 1 _ rfl,hc 2 _ rfl,hc 3 _ rfl,hg,h1,h2,h3⟩
theorem wpAnyD_three {P:Program} {ops:Array Oper} {Q:Exit→Act→World→Prop} {md:Region.Mode} {S:World→Prop} {hd:Nat→Bool} {i j k:Nat} {oi oj ok:Oper} {fuel:Nat} {listed:Array Bool} {a:Act} {w:World} (hr:Region.ready md ops listed=[i,j,k]) (hi:ops[i]? =some oi) (hj:ops[j]? =some oj) (hk:ops[k]? =some ok) (hwi:Region.wanted oi (yielded ops a.tmps)=true) (hwj:Region.wanted oj (yielded ops a.tmps)=true) (hwk:Region.wanted ok (yielded ops a.tmps)=true) (h1:∀K:Act→World→Prop,(∀a' w',(hd i=true→S w')→wpAnyD P md ops Q S hd fuel (listed.setIfInBounds i true) a' w'→K a' w')→oi.wp P a w K Q) (h2:∀K:Act→World→Prop,(∀a' w',(hd j=true→S w')→wpAnyD P md ops Q S hd fuel (listed.setIfInBounds j true) a' w'→K a' w')→oj.wp P a w K Q) (h3:∀K:Act→World→Prop,(∀a' w',(hd k=true→S w')→wpAnyD P md ops Q S hd fuel (listed.setIfInBounds k true) a' w'→K a' w')→ok.wp P a w K Q):wpAnyD P md ops Q S hd (fuel+1) listed a w:=by
 refine⟨fun h0=>(by rw[hr] at h0;cases h0),fun q hq=>?_⟩;rw[hr] at hq;rcases List.mem_cons.1 hq with rfl|hq
 ·unfold wpOp;simp only[hi,hwi,if_true];exact .inl (h1 _ fun a' w' hs hn=>⟨hs,hn⟩)
 rcases List.mem_cons.1 hq with rfl|hq
 ·unfold wpOp;simp only[hj,hwj,if_true];exact .inl (h2 _ fun a' w' hs hn=>⟨hs,hn⟩)
 ·rw[List.mem_singleton] at hq;subst hq;unfold wpOp;simp only[hk,hwk,if_true];exact .inl (h3 _ fun a' w' hs hn=>⟨hs,hn⟩)
theorem GBk.st {m h:Int} {l:List SectP} (H:GBk m h l):StB 0 m h l:=by
 refine⟨chkE_good H.noerr,H.n,fun s hs=>?_,fun s hs=>?_⟩
 ·obtain⟨f,hf⟩:=H.chk;obtain⟨i,hi,rfl⟩:=List.getElem_of_mem hs;have hc:=hf i hi;have:=hc.n3;omega
 ·exact(H.pre s hs).2.2.2
structure CgI (V:World) (b1:Nat) (m h:Int) (k:Nat) (l:List SectP) (A:Option Addr) (c:Nat) (w:World):Prop where
 b:ABox w b1 27 [.int .i64 m,.int .i64 h,.slice A l.length c]
 g:StB k m h l
 s:Sl w (fun b=>b<w.heap.size∧b≠b1) A c l
 k:Below b1 V w
theorem CgI.to {V w w':World} {b1:Nat} {m h:Int} {k:Nat} {l:List SectP} {A:Option Addr} {c:Nat} (H:CgI V b1 m h k l A c w) (hb:Below w.heap.size w w'):CgI V b1 m h k l A c w':=⟨H.b.to hb,H.g,slP_to H.s hb,H.k.trans (hb.mono (Nat.le_of_lt H.b.lt))⟩
theorem CgI.st {V w:World} {b1:Nat} {m h:Int} {j k:Nat} {l:List SectP} {A:Option Addr} {c:Nat} (H:CgI V b1 m h j l A c w) (hjk:j≤k):CgI V b1 m h k l A c w:=⟨H.b,H.g.mono hjk,H.s,H.k⟩
structure RS (b1:Nat) (cs:List Value) (ba oa:Nat) (x:ActP) (At:Option Addr) (ct:Nat) (w:World):Prop where
 b:ABox w b1 27 cs
 lt:ba<w.heap.size
 a0:w.cell? ⟨ba,oa,none⟩=some (.int .i64 x.kind)
 a1:w.cell? ⟨ba,oa+1,none⟩=some (.int .i64 x.entry)
 a2:w.cell? ⟨ba,oa+2,none⟩=some (.int .i64 x.version)
 a3:w.cell? ⟨ba,oa+3,none⟩=some (.slice At x.text.length ct)
theorem RS.to {b1:Nat} {cs:List Value} {ba oa:Nat} {x:ActP} {At:Option Addr} {ct:Nat} {w w':World} (H:RS b1 cs ba oa x At ct w) (hb:Below w.heap.size w w'):RS b1 cs ba oa x At ct w':=⟨H.b.to hb,Nat.lt_of_lt_of_le H.lt hb.size,(hb.cell (p:=⟨ba,oa,none⟩) H.lt).trans H.a0,(hb.cell (p:=⟨ba,oa+1,none⟩) H.lt).trans H.a1,(hb.cell (p:=⟨ba,oa+2,none⟩) H.lt).trans H.a2,(hb.cell (p:=⟨ba,oa+3,none⟩) H.lt).trans H.a3⟩
theorem RS.s3 {b1:Nat} {cs:List Value} {ba oa:Nat} {x:ActP} {At:Option Addr} {ct:Nat} {w:World} {X:Nat} (H:RS b1 cs ba oa x At ct w) (h1:b1≠X) (h2:ba≠X) (u v s:Value):RS b1 cs ba oa x At ct (((w.setCell ⟨X,0,none⟩ u).setCell ⟨X,1,none⟩ v).setCell ⟨X,2,none⟩ s):=by
 have e:∀q,(((w.setCell ⟨X,0,none⟩ u).setCell ⟨X,1,none⟩ v).setCell ⟨X,2,none⟩ s).cell? ⟨ba,q,none⟩=w.cell? ⟨ba,q,none⟩:=fun q=>by
  unfold World.cell?;rw[heap_set _ _ _ _ h2,heap_set _ _ _ _ h2,heap_set _ _ _ _ h2]
 exact⟨abox_o3 H.b h1 u v s,by simpa using H.lt,(e _).trans H.a0,(e _).trans H.a1,(e _).trans H.a2,(e _).trans H.a3⟩
structure RG (V:World) (b1:Nat) (m h:Int) (k:Nat) (l:List SectP) (A:Option Addr) (c:Nat) (o:BO) (A1:Option Addr) (c1:Nat) (A2:Option Addr) (c2:Nat) (Y7 Y9:Nat) (w:World):Prop where
 c:CgI V b1 m h k l A c w
 d:DoneO m h l o
 x:ABox w Y7 27 [.int .i64 o.m,.int .i64 o.h,.slice A1 o.l.length c1]
 y:ABox w Y9 27 [.int .i64 o.m,.int .i64 o.h,.slice A2 o.l.length c2]
 s1:Sl w (fun b=>b<w.heap.size∧b≠b1) A1 c1 o.l
 s2:Sl w (fun b=>b<w.heap.size∧b≠b1) A2 c2 o.l
 ne:b1<Y7∧b1<Y9
set_option maxRecDepth 100000 in
theorem changes_any (A0:Option Addr) (c0:Nat) (l0:List Int) (Aa:Option Addr) (ca:Nat) (acts:List ActP) (W1:World) (hs0:Sl W1 (fun b=>b<W1.heap.size) A0 c0 l0) (ha:Sl W1 (fun b=>b<W1.heap.size) Aa ca acts) (hT:Tabs W1):
 Calls Tryz.prog 6 #[.slice A0 l0.length c0,.slice Aa acts.length ca] W1 fun e w'=>e=.returned (.bool true)∧Below W1.heap.size W1 w':=by
 have HT:=Lh hT;have HI0:=Lh hs0;have HAC:=Lh ha;obtain⟨n,hn⟩:∃n,acts.length=n:=⟨_,rfl⟩;have HN:=Lh hn;have hnc:n≤ca:=by rw[←hn];exact ha.1
 have hcm:ca≤9223372036854775807:=ha.2.1;rw[hn];clear hT hs0 ha hn;go_enter Tryz.func6,Tryz.ntmps6
 go_upto_region 2 with(first|(go_at_call 9;refine(gbook_any A0 c0 l0 W1 HI0.out).mono ?_;rintro e V1 ⟨m,h,Ab1,cb1,ss,rfl,hg,hs,hb⟩;have HG:=Lh hg;have HV1:=Lh hb;have HS1:=Lh hs;clear hg hs hb)|fail)
 obtain⟨W2,hW⟩:∃W2,V1.alloc (.cells #[.int .i64 m,.int .i64 h,.slice Ab1 ss.length cb1] 27)=W2:=⟨_,rfl⟩;obtain⟨b1,hbk⟩:∃b1,V1.heap.size=b1:=⟨_,rfl⟩;have hb2:Below V1.heap.size V1 W2:=by rw[←hW];exact(Below.refl _ _).alloc (Nat.le_refl _) _
 have hx2:ABox W2 b1 27 [.int .i64 m,.int .i64 h,.slice Ab1 ss.length cb1]:=by rw[←hW,←hbk];exact heap_alloc_new V1 _
 rw[hW,hbk];have hci:CgI V1 b1 m h 0 ss Ab1 cb1 W2:=⟨hx2,HG.out.st,(HS1.out.keep (Kept.below hb2 fun _ h=>h.2) hb2.size).mono (fun i hi hl=>⟨hl,by have:=hi.2;omega⟩),by rw[←hbk];exact hb2⟩;have HCI:=Lh hci;have HB1:Hid (W1.heap.size≤b1):=Lh (by rw[←hbk];exact HV1.out.size);clear hW hbk hb2 hx2 hci HG HS1 HI0;go_wp2_with fail;go_loopw [6] (fun i wr=>∃(k:Nat) (l:List SectP) (A:Option Addr) (c:Nat),k≤6∧k≤n∧i=.int .i64 k∧Hid (CgI V1 b1 m h k l A c wr)) (fun i _=>6-(intOf i).toNat);(case atStart=>exact⟨0,ss,Ab1,cb1,by omega,by omega,rfl,HCI⟩);case round=>
  obtain⟨k,l,A,c,hk6,hkn,rfl,HC⟩:=hrel;have HBr:Hid (Below W1.heap.size W1 wr):=Lh (HV1.out.trans ((HC.out.k.mono HB1.out).mono (Nat.le_refl _)));by_cases hlt:k<n∧k<6
  ·obtain⟨hk,hk6'⟩:=hlt;have hkI:(k:Int)<(n:Int):=(by omega);have hkJ:(k:Int)<6:=(by omega);obtain⟨ba,oa,At,ct,hAa,hba,-,e0',e1',e2',e3',hsT,hI1,hI2,hI3⟩:=act_at HAC.out (k:=k) (by rw[HN.out];exact hk);obtain⟨x,hx⟩:∃x,acts[k]'(by rw[HN.out];exact hk)=x:=⟨_,rfl⟩;rw[hx] at e0' e1' e2' e3' hsT hI1 hI2 hI3;have hrs:RS b1 [.int .i64 m,.int .i64 h,.slice A l.length c] ba (oa+k*4) x At ct wr:=⟨HC.out.b,Nat.lt_of_lt_of_le hba HBr.out.size,(HBr.out.cell (p:=⟨ba,oa+k*4,none⟩) hba).trans e0',(HBr.out.cell (p:=⟨ba,oa+k*4+1,none⟩) hba).trans e1',(HBr.out.cell (p:=⟨ba,oa+k*4+2,none⟩) hba).trans e2',(HBr.out.cell (p:=⟨ba,oa+k*4+3,none⟩) hba).trans e3'⟩;have HRS:=Lh hrs
   have HD:Hid (∀W,Below wr.heap.size wr W→Calls Tryz.prog 26 #[.agg #[.int .i64 m,.int .i64 h,.slice A l.length c],.agg #[.int .i64 x.kind,.int .i64 x.entry,.int .i64 x.version,.slice At x.text.length ct]] W fun e W'=>DRes (fun b=>(b≠b1∧b<wr.heap.size)∨W.heap.size≤b) m h l W' e∧Below W.heap.size W W'):=Lh fun W hW=>
    done_any A c l m h x.kind x.entry x.version At ct x.text W ((HT.out.to (HBr.out.trans (hW.mono HBr.out.size))).1) ((HC.out.s.keep (Kept.all hW) hW.size).mono (fun i hi hl=>⟨hl,hi.2,hi.1⟩)) HC.out.g (by omega) hI1 hI2 hI3 (hsT.to (HBr.out.trans (hW.mono HBr.out.size)))
   clear e0' e1' e2' e3' hsT hI1 hI2 hI3 hrs hx hba;subst hAa;go_upto_region 5 with(fail);go_cut [7,8,9,10] from 23 to 33 (fun v7 v8 v9 v10 wx=>∃(o:BO) (A1:Option Addr) (c1:Nat) (A2:Option Addr) (c2 Y7 Y9:Nat),v7=.pointer (some ⟨Y7,0,none⟩)∧v8=.int .i64 o.e∧v9=.pointer (some ⟨Y9,0,none⟩)∧v10=.int .i64 o.e∧Hid (RG V1 b1 m h k l A c o A1 c1 A2 c2 Y7 Y9 wx));case first=>
    refine wp_region_D (RS b1 [.int .i64 m,.int .i64 h,.slice A l.length c] ba (oa+k*4) x At ct) (fun i=>decide (i<17)) (by kernel_rfl) ?_;have hbz:Below wr.heap.size wr wr.drew:=(Below.refl _ _).drew;have hS0:=HRS.out.to hbz;have HB0:=Lh hbz;have HW:Hid (b1<wr.heap.size):=Lh HC.out.b.lt;clear hbz;generalize wr.drew=w0 at*;refine tE 0 ⟨some 24,Op.load 27 (Operand.tmp 5),27,_,_,_⟩ ?_ rfl ?zq0 (hS0) ?zq1;(case zq0=>intro wS hSw;have q0:=hSw.b.cell 0 rfl;have q1:=hSw.b.cell 1 rfl;have q2:=hSw.b.cell 2 rfl;clear hSw;go_simp;(try with_reducible rfl));(all_goals try go_frame);refine tE 1 ⟨some 25,Op.move (Operand.tmp 1),61,_,_,_⟩ ?_ rfl ?zq2 (hS0) ?zq3;(case zq2=>intro wS hSw;clear hSw;go_simp;(try with_reducible rfl));(all_goals try go_frame);refine tE 2 ⟨some 26,Op.move (Operand.tmp 6),3,_,_,_⟩ ?_ rfl ?zq4 (hS0) ?zq5;(case zq4=>intro wS hSw;clear hSw;go_simp;(try with_reducible rfl));(all_goals try go_frame);refine tE 3 ⟨some 27,Op.indexAddr 61 (Operand.tmp 25) (Operand.tmp 26),0,_,_,_⟩ ?_ rfl ?zq6 (hS0) ?zq7;(case zq6=>intro wS hSw;clear hSw;go_simp;(try with_reducible rfl));(all_goals try go_frame);refine tE 4 ⟨some 28,Op.load 65 (Operand.tmp 27),65,_,_,_⟩ ?_ rfl ?zq8 (hS0) ?zq9;(case zq8=>intro wS hSw;have q0:=hSw.a0;have q1:=hSw.a1;have q2:=hSw.a2;have q3:=hSw.a3;clear hSw;go_simp;(try with_reducible rfl));(all_goals try go_frame);refine wpAnyD_three (i:=5) (j:=11) (k:=12) (oi:=⟨some 29,Op.call {callee:=Callee.value (Operand.func 26),args:=#[Operand.tmp 24,Operand.tmp 28],argTypes:=#[27,65]},62,_,_,_⟩) (oj:=⟨some 7,Op.alloc 27,0,_,_,_⟩) (ok:=⟨some 9,Op.alloc 27,0,_,_,_⟩) (by kernel_rfl) rfl rfl rfl (by rfl) (by rfl) (by rfl) (fun K hK=>?_) (fun K hK=>?_) (fun K hK=>?_)
    ·go_simp;go_at_call 26;refine(HD.out w0 HB0.out).mono ?_;rintro e w1 ⟨⟨o,A1,c1,A2,c2,rfl,hdo,hs1,hs2⟩,hbN⟩;have HDO:=Lh hdo;have HS11:Hid (Sl w1 (fun b=>b≠b1) A1 c1 o.l):=Lh (hs1.mono (fun i hi hl=>by have h8:(i≠b1∧i<wr.heap.size)∨w0.heap.size≤i:=hi.2;have h9:=HW.out;have h10:=HB0.out.size;show i≠b1;omega));have HS21:Hid (Sl w1 (fun b=>b≠b1) A2 c2 o.l):=Lh (hs2.mono (fun i hi hl=>by have h8:(i≠b1∧i<wr.heap.size)∨w0.heap.size≤i:=hi.2;have h9:=HW.out;have h10:=HB0.out.size;show i≠b1;omega));have HB1:=Lh (HB0.out.trans (hbN.mono HB0.out.size));have hS1:=hS0.to hbN;clear hdo hs1 hs2 hbN hS0 HB0;go_simp;refine hK _ _ (fun _=>?_) ?_
     ·exact hS1
     clear hK K;(try go_frame);refine tE 6 ⟨some 23,Op.move (Operand.tmp 29),62,_,_,_⟩ ?_ rfl ?zq10 (hS1) ?zq11;(case zq10=>intro wS hSw;clear hSw;go_simp;(try with_reducible rfl));(all_goals try go_frame);refine tE 7 ⟨some 30,Op.extract (Operand.tmp 23) 0,27,_,_,_⟩ ?_ rfl ?zq12 (hS1) ?zq13;(case zq12=>intro wS hSw;clear hSw;go_simp;(try with_reducible rfl));(all_goals try go_frame);refine tE 8 ⟨some 31,Op.extract (Operand.tmp 23) 1,58,_,_,_⟩ ?_ rfl ?zq14 (hS1) ?zq15;(case zq14=>intro wS hSw;clear hSw;go_simp;(try with_reducible rfl));(all_goals try go_frame);refine tE 9 ⟨some 32,Op.extract (Operand.tmp 23) 2,27,_,_,_⟩ ?_ rfl ?zq16 (hS1) ?zq17;(case zq16=>intro wS hSw;clear hSw;go_simp;(try with_reducible rfl));(all_goals try go_frame);refine tE 10 ⟨some 33,Op.extract (Operand.tmp 23) 3,58,_,_,_⟩ ?_ rfl ?zq18 (hS1) ?zq19;(case zq18=>intro wS hSw;clear hSw;go_simp;(try with_reducible rfl));(all_goals try go_frame);refine wpAnyD_two (i:=11) (j:=12) (oi:=⟨some 7,Op.alloc 27,0,_,_,_⟩) (oj:=⟨some 9,Op.alloc 27,0,_,_,_⟩) (by kernel_rfl) rfl rfl (by rfl) (by rfl) (fun K hK=>?_) (fun K hK=>?_)
     ·go_simp;refine hK _ _ (fun _=>?_) ?_
      ·exact hS1.to ((Below.refl _ _).alloc (Nat.le_refl _) _)
      clear hK K;obtain⟨w2,hwN⟩:∃w2,w1.alloc (.cells #[.int .i64 0,.int .i64 0,.slice none 0 0] 27)=w2:=⟨_,rfl⟩;obtain⟨Y7,hY⟩:∃Y,w1.heap.size=Y:=⟨_,rfl⟩;have hbN:Below w1.heap.size w1 w2:=(by rw[←hwN];exact(Below.refl _ _).alloc (Nat.le_refl _) _);have HXY72:Hid (ABox w2 Y7 27 [.int .i64 0,.int .i64 0,.slice none 0 0]):=Lh (by rw[←hwN,←hY];exact heap_alloc_new w1 _);have HGY7:Hid (wr.heap.size≤Y7):=Lh (by rw[←hY];exact HB1.out.size);have HB2:=Lh (HB1.out.trans (hbN.mono HB1.out.size));have hS2:=hS1.to hbN;have HS12:Hid (Sl w2 (fun b=>(b≠b1)∧b≠Y7) A1 c1 o.l):=Lh ((HS11.out.mono (fun i hi hl=>⟨hi,by omega⟩)).keep (Kept.all hbN) hbN.size);have HS22:Hid (Sl w2 (fun b=>(b≠b1)∧b≠Y7) A2 c2 o.l):=Lh ((HS21.out.mono (fun i hi hl=>⟨hi,by omega⟩)).keep (Kept.all hbN) hbN.size);rw[hwN,hY];clear hwN hY hbN hS1 HB1;(try go_frame);refine tD 12 ⟨some 9,Op.alloc 27,0,_,_,_⟩ rfl fun K hK=>?_
      go_simp;refine hK _ _ (fun _=>?_) ?_
      ·exact hS2.to ((Below.refl _ _).alloc (Nat.le_refl _) _)
      clear hK K;obtain⟨w3,hwN⟩:∃w3,w2.alloc (.cells #[.int .i64 0,.int .i64 0,.slice none 0 0] 27)=w3:=⟨_,rfl⟩;obtain⟨Y9,hY⟩:∃Y,w2.heap.size=Y:=⟨_,rfl⟩;have hbN:Below w2.heap.size w2 w3:=(by rw[←hwN];exact(Below.refl _ _).alloc (Nat.le_refl _) _);have HXY93:Hid (ABox w3 Y9 27 [.int .i64 0,.int .i64 0,.slice none 0 0]):=Lh (by rw[←hwN,←hY];exact heap_alloc_new w2 _);have HGY9:Hid (wr.heap.size≤Y9):=Lh (by rw[←hY];exact HB2.out.size);have HB3:=Lh (HB2.out.trans (hbN.mono HB2.out.size));have hS3:=hS2.to hbN;have HNE:Hid (Y7≠Y9):=Lh (by have:=HXY72.out.lt;omega);have HXY73:=Lh (HXY72.out.to hbN);have HS13:Hid (Sl w3 (fun b=>((b≠b1)∧b≠Y7)∧b≠Y9) A1 c1 o.l):=Lh ((HS12.out.mono (fun i hi hl=>⟨hi,by omega⟩)).keep (Kept.all hbN) hbN.size);have HS23:Hid (Sl w3 (fun b=>((b≠b1)∧b≠Y7)∧b≠Y9) A2 c2 o.l):=Lh ((HS22.out.mono (fun i hi hl=>⟨hi,by omega⟩)).keep (Kept.all hbN) hbN.size);rw[hwN,hY];clear hwN hY hbN hS2 HB2;(try go_frame);refine tD 13 ⟨none,Op.store 27 (Operand.tmp 7) (Operand.tmp 30),0,_,_,_⟩ rfl fun K hK=>?_
      have r0:=HXY73.out.cell 0 rfl;have r1:=HXY73.out.cell 1 rfl;have r2:=HXY73.out.cell 2 rfl;have f0:=HXY73.out.fz 0;have f1:=HXY73.out.fz 1;have f2:=HXY73.out.fz 2;go_simp;refine hK _ _ (fun _=>?_) ?_
      ·exact hS3.s3 (by have:=HW.out;have:=HGY7.out;omega) (by have:=HRS.out.lt;have:=HGY7.out;omega) _ _ _
      clear hK K;clear r0 r1 r2 f0 f1 f2;obtain⟨w4,hwN⟩:∃w4,(((w3.setCell ⟨Y7,0,none⟩ (.int .i64 o.m)).setCell ⟨Y7,1,none⟩ (.int .i64 o.h)).setCell ⟨Y7,2,none⟩ (.slice A1 o.l.length c1))=w4:=⟨_,rfl⟩;have HXY74:=Lh (abox3 HXY73.out (.int .i64 o.m) (.int .i64 o.h) (.slice A1 o.l.length c1));have HXY94:=Lh (abox_o3 HXY93.out (show Y9≠Y7 by have:=HNE.out;omega) (.int .i64 o.m) (.int .i64 o.h) (.slice A1 o.l.length c1));have HB4:=Lh (below3 HB3.out HGY7.out (.int .i64 o.m) (.int .i64 o.h) (.slice A1 o.l.length c1));have HS14:=Lh (sl_o3 (X:=Y7) HS13.out (fun q hq=>by have hq:((q≠b1)∧q≠Y7)∧q≠Y9:=hq;omega) (.int .i64 o.m) (.int .i64 o.h) (.slice A1 o.l.length c1));have HS24:=Lh (sl_o3 (X:=Y7) HS23.out (fun q hq=>by have hq:((q≠b1)∧q≠Y7)∧q≠Y9:=hq;omega) (.int .i64 o.m) (.int .i64 o.h) (.slice A1 o.l.length c1));have hS4:=hS3.s3 (X:=Y7) (by have:=HW.out;have:=HGY7.out;omega) (by have:=HRS.out.lt;have:=HGY7.out;omega) (.int .i64 o.m) (.int .i64 o.h) (.slice A1 o.l.length c1);rw[hwN];rw[hwN] at HXY74 HXY94 HB4 HS14 HS24 hS4;clear hwN hS3 HXY73 HXY93 HB3 HS13 HS23;(try simp only[Act.put]);refine tD 14 ⟨some 8,Op.assign (Operand.tmp 31),58,_,_,_⟩ rfl fun K hK=>?_
      go_simp;refine hK _ _ (fun _=>?_) ?_
      ·exact hS4
      clear hK K;(try go_frame);refine tD 15 ⟨none,Op.store 27 (Operand.tmp 9) (Operand.tmp 32),0,_,_,_⟩ rfl fun K hK=>?_
      have r0:=HXY94.out.cell 0 rfl;have r1:=HXY94.out.cell 1 rfl;have r2:=HXY94.out.cell 2 rfl;have f0:=HXY94.out.fz 0;have f1:=HXY94.out.fz 1;have f2:=HXY94.out.fz 2;go_simp;refine hK _ _ (fun _=>?_) ?_
      ·exact hS4.s3 (by have:=HW.out;have:=HGY9.out;omega) (by have:=HRS.out.lt;have:=HGY9.out;omega) _ _ _
      clear hK K;clear r0 r1 r2 f0 f1 f2;obtain⟨w5,hwN⟩:∃w5,(((w4.setCell ⟨Y9,0,none⟩ (.int .i64 o.m)).setCell ⟨Y9,1,none⟩ (.int .i64 o.h)).setCell ⟨Y9,2,none⟩ (.slice A2 o.l.length c2))=w5:=⟨_,rfl⟩;have HXY95:=Lh (abox3 HXY94.out (.int .i64 o.m) (.int .i64 o.h) (.slice A2 o.l.length c2));have HXY75:=Lh (abox_o3 HXY74.out (show Y7≠Y9 by have:=HNE.out;omega) (.int .i64 o.m) (.int .i64 o.h) (.slice A2 o.l.length c2));have HB5:=Lh (below3 HB4.out HGY9.out (.int .i64 o.m) (.int .i64 o.h) (.slice A2 o.l.length c2));have HS15:=Lh (sl_o3 (X:=Y9) HS14.out (fun q hq=>by have hq:((q≠b1)∧q≠Y7)∧q≠Y9:=hq;omega) (.int .i64 o.m) (.int .i64 o.h) (.slice A2 o.l.length c2));have HS25:=Lh (sl_o3 (X:=Y9) HS24.out (fun q hq=>by have hq:((q≠b1)∧q≠Y7)∧q≠Y9:=hq;omega) (.int .i64 o.m) (.int .i64 o.h) (.slice A2 o.l.length c2));have hS5:=hS4.s3 (X:=Y9) (by have:=HW.out;have:=HGY9.out;omega) (by have:=HRS.out.lt;have:=HGY9.out;omega) (.int .i64 o.m) (.int .i64 o.h) (.slice A2 o.l.length c2);rw[hwN];rw[hwN] at HXY95 HXY75 HB5 HS15 HS25 hS5;clear hwN hS4 HXY94 HXY74 HB4 HS14 HS24;(try simp only[Act.put]);refine tD 16 ⟨some 10,Op.assign (Operand.tmp 33),58,_,_,_⟩ rfl fun K hK=>?_
      go_simp;refine hK _ _ (fun _=>?_) ?_
      ·exact hS5
      clear hK K;(try go_frame);refine wpAnyD_done (by kernel_rfl) ?_ _;unfold Exit.then;go_wp2_with fail;go_meet;exact⟨o,A1,c1,A2,c2,Y7,Y9,rfl,rfl,rfl,rfl,Lh ⟨HC.out.to HB5.out,HDO.out,HXY75.out,HXY95.out,HS15.out.mono (fun i hi hl=>⟨hl,by have hi:((i≠b1)∧i≠Y7)∧i≠Y9:=hi;omega⟩),HS25.out.mono (fun i hi hl=>⟨hl,by have hi:((i≠b1)∧i≠Y7)∧i≠Y9:=hi;omega⟩),by have h1:=HW.out;have h2:=HGY7.out;have h3:=HGY9.out;omega⟩⟩
     ·go_simp;refine hK _ _ (fun _=>?_) ?_
      ·exact hS1.to ((Below.refl _ _).alloc (Nat.le_refl _) _)
      clear hK K;obtain⟨w2,hwN⟩:∃w2,w1.alloc (.cells #[.int .i64 0,.int .i64 0,.slice none 0 0] 27)=w2:=⟨_,rfl⟩;obtain⟨Y9,hY⟩:∃Y,w1.heap.size=Y:=⟨_,rfl⟩;have hbN:Below w1.heap.size w1 w2:=(by rw[←hwN];exact(Below.refl _ _).alloc (Nat.le_refl _) _);have HXY92:Hid (ABox w2 Y9 27 [.int .i64 0,.int .i64 0,.slice none 0 0]):=Lh (by rw[←hwN,←hY];exact heap_alloc_new w1 _);have HGY9:Hid (wr.heap.size≤Y9):=Lh (by rw[←hY];exact HB1.out.size);have HB2:=Lh (HB1.out.trans (hbN.mono HB1.out.size));have hS2:=hS1.to hbN;have HS12:Hid (Sl w2 (fun b=>(b≠b1)∧b≠Y9) A1 c1 o.l):=Lh ((HS11.out.mono (fun i hi hl=>⟨hi,by omega⟩)).keep (Kept.all hbN) hbN.size);have HS22:Hid (Sl w2 (fun b=>(b≠b1)∧b≠Y9) A2 c2 o.l):=Lh ((HS21.out.mono (fun i hi hl=>⟨hi,by omega⟩)).keep (Kept.all hbN) hbN.size);rw[hwN,hY];clear hwN hY hbN hS1 HB1;(try go_frame);refine tD 11 ⟨some 7,Op.alloc 27,0,_,_,_⟩ rfl fun K hK=>?_
      go_simp;refine hK _ _ (fun _=>?_) ?_
      ·exact hS2.to ((Below.refl _ _).alloc (Nat.le_refl _) _)
      clear hK K;obtain⟨w3,hwN⟩:∃w3,w2.alloc (.cells #[.int .i64 0,.int .i64 0,.slice none 0 0] 27)=w3:=⟨_,rfl⟩;obtain⟨Y7,hY⟩:∃Y,w2.heap.size=Y:=⟨_,rfl⟩;have hbN:Below w2.heap.size w2 w3:=(by rw[←hwN];exact(Below.refl _ _).alloc (Nat.le_refl _) _);have HXY73:Hid (ABox w3 Y7 27 [.int .i64 0,.int .i64 0,.slice none 0 0]):=Lh (by rw[←hwN,←hY];exact heap_alloc_new w2 _);have HGY7:Hid (wr.heap.size≤Y7):=Lh (by rw[←hY];exact HB2.out.size);have HB3:=Lh (HB2.out.trans (hbN.mono HB2.out.size));have hS3:=hS2.to hbN;have HNE:Hid (Y7≠Y9):=Lh (by have:=HXY92.out.lt;omega);have HXY93:=Lh (HXY92.out.to hbN);have HS13:Hid (Sl w3 (fun b=>((b≠b1)∧b≠Y9)∧b≠Y7) A1 c1 o.l):=Lh ((HS12.out.mono (fun i hi hl=>⟨hi,by omega⟩)).keep (Kept.all hbN) hbN.size);have HS23:Hid (Sl w3 (fun b=>((b≠b1)∧b≠Y9)∧b≠Y7) A2 c2 o.l):=Lh ((HS22.out.mono (fun i hi hl=>⟨hi,by omega⟩)).keep (Kept.all hbN) hbN.size);rw[hwN,hY];clear hwN hY hbN hS2 HB2;(try go_frame);refine tD 13 ⟨none,Op.store 27 (Operand.tmp 7) (Operand.tmp 30),0,_,_,_⟩ rfl fun K hK=>?_
      have r0:=HXY73.out.cell 0 rfl;have r1:=HXY73.out.cell 1 rfl;have r2:=HXY73.out.cell 2 rfl;have f0:=HXY73.out.fz 0;have f1:=HXY73.out.fz 1;have f2:=HXY73.out.fz 2;go_simp;refine hK _ _ (fun _=>?_) ?_
      ·exact hS3.s3 (by have:=HW.out;have:=HGY7.out;omega) (by have:=HRS.out.lt;have:=HGY7.out;omega) _ _ _
      clear hK K;clear r0 r1 r2 f0 f1 f2;obtain⟨w4,hwN⟩:∃w4,(((w3.setCell ⟨Y7,0,none⟩ (.int .i64 o.m)).setCell ⟨Y7,1,none⟩ (.int .i64 o.h)).setCell ⟨Y7,2,none⟩ (.slice A1 o.l.length c1))=w4:=⟨_,rfl⟩;have HXY74:=Lh (abox3 HXY73.out (.int .i64 o.m) (.int .i64 o.h) (.slice A1 o.l.length c1));have HXY94:=Lh (abox_o3 HXY93.out (show Y9≠Y7 by have:=HNE.out;omega) (.int .i64 o.m) (.int .i64 o.h) (.slice A1 o.l.length c1));have HB4:=Lh (below3 HB3.out HGY7.out (.int .i64 o.m) (.int .i64 o.h) (.slice A1 o.l.length c1));have HS14:=Lh (sl_o3 (X:=Y7) HS13.out (fun q hq=>by have hq:((q≠b1)∧q≠Y9)∧q≠Y7:=hq;omega) (.int .i64 o.m) (.int .i64 o.h) (.slice A1 o.l.length c1));have HS24:=Lh (sl_o3 (X:=Y7) HS23.out (fun q hq=>by have hq:((q≠b1)∧q≠Y9)∧q≠Y7:=hq;omega) (.int .i64 o.m) (.int .i64 o.h) (.slice A1 o.l.length c1));have hS4:=hS3.s3 (X:=Y7) (by have:=HW.out;have:=HGY7.out;omega) (by have:=HRS.out.lt;have:=HGY7.out;omega) (.int .i64 o.m) (.int .i64 o.h) (.slice A1 o.l.length c1);rw[hwN];rw[hwN] at HXY74 HXY94 HB4 HS14 HS24 hS4;clear hwN hS3 HXY73 HXY93 HB3 HS13 HS23;(try simp only[Act.put]);refine tD 14 ⟨some 8,Op.assign (Operand.tmp 31),58,_,_,_⟩ rfl fun K hK=>?_
      go_simp;refine hK _ _ (fun _=>?_) ?_
      ·exact hS4
      clear hK K;(try go_frame);refine tD 15 ⟨none,Op.store 27 (Operand.tmp 9) (Operand.tmp 32),0,_,_,_⟩ rfl fun K hK=>?_
      have r0:=HXY94.out.cell 0 rfl;have r1:=HXY94.out.cell 1 rfl;have r2:=HXY94.out.cell 2 rfl;have f0:=HXY94.out.fz 0;have f1:=HXY94.out.fz 1;have f2:=HXY94.out.fz 2;go_simp;refine hK _ _ (fun _=>?_) ?_
      ·exact hS4.s3 (by have:=HW.out;have:=HGY9.out;omega) (by have:=HRS.out.lt;have:=HGY9.out;omega) _ _ _
      clear hK K;clear r0 r1 r2 f0 f1 f2;obtain⟨w5,hwN⟩:∃w5,(((w4.setCell ⟨Y9,0,none⟩ (.int .i64 o.m)).setCell ⟨Y9,1,none⟩ (.int .i64 o.h)).setCell ⟨Y9,2,none⟩ (.slice A2 o.l.length c2))=w5:=⟨_,rfl⟩;have HXY95:=Lh (abox3 HXY94.out (.int .i64 o.m) (.int .i64 o.h) (.slice A2 o.l.length c2));have HXY75:=Lh (abox_o3 HXY74.out (show Y7≠Y9 by have:=HNE.out;omega) (.int .i64 o.m) (.int .i64 o.h) (.slice A2 o.l.length c2));have HB5:=Lh (below3 HB4.out HGY9.out (.int .i64 o.m) (.int .i64 o.h) (.slice A2 o.l.length c2));have HS15:=Lh (sl_o3 (X:=Y9) HS14.out (fun q hq=>by have hq:((q≠b1)∧q≠Y9)∧q≠Y7:=hq;omega) (.int .i64 o.m) (.int .i64 o.h) (.slice A2 o.l.length c2));have HS25:=Lh (sl_o3 (X:=Y9) HS24.out (fun q hq=>by have hq:((q≠b1)∧q≠Y9)∧q≠Y7:=hq;omega) (.int .i64 o.m) (.int .i64 o.h) (.slice A2 o.l.length c2));have hS5:=hS4.s3 (X:=Y9) (by have:=HW.out;have:=HGY9.out;omega) (by have:=HRS.out.lt;have:=HGY9.out;omega) (.int .i64 o.m) (.int .i64 o.h) (.slice A2 o.l.length c2);rw[hwN];rw[hwN] at HXY95 HXY75 HB5 HS15 HS25 hS5;clear hwN hS4 HXY94 HXY74 HB4 HS14 HS24;(try simp only[Act.put]);refine tD 16 ⟨some 10,Op.assign (Operand.tmp 33),58,_,_,_⟩ rfl fun K hK=>?_
      go_simp;refine hK _ _ (fun _=>?_) ?_
      ·exact hS5
      clear hK K;(try go_frame);refine wpAnyD_done (by kernel_rfl) ?_ _;unfold Exit.then;go_wp2_with fail;go_meet;exact⟨o,A1,c1,A2,c2,Y7,Y9,rfl,rfl,rfl,rfl,Lh ⟨HC.out.to HB5.out,HDO.out,HXY75.out,HXY95.out,HS15.out.mono (fun i hi hl=>⟨hl,by have hi:((i≠b1)∧i≠Y9)∧i≠Y7:=hi;omega⟩),HS25.out.mono (fun i hi hl=>⟨hl,by have hi:((i≠b1)∧i≠Y9)∧i≠Y7:=hi;omega⟩),by have h1:=HW.out;have h2:=HGY7.out;have h3:=HGY9.out;omega⟩⟩
    ·go_simp;refine hK _ _ (fun _=>?_) ?_
     ·exact hS0.to ((Below.refl _ _).alloc (Nat.le_refl _) _)
     clear hK K;obtain⟨w1,hwN⟩:∃w1,w0.alloc (.cells #[.int .i64 0,.int .i64 0,.slice none 0 0] 27)=w1:=⟨_,rfl⟩;obtain⟨Y7,hY⟩:∃Y,w0.heap.size=Y:=⟨_,rfl⟩;have hbN:Below w0.heap.size w0 w1:=(by rw[←hwN];exact(Below.refl _ _).alloc (Nat.le_refl _) _);have HXY71:Hid (ABox w1 Y7 27 [.int .i64 0,.int .i64 0,.slice none 0 0]):=Lh (by rw[←hwN,←hY];exact heap_alloc_new w0 _);have HGY7:Hid (wr.heap.size≤Y7):=Lh (by rw[←hY];exact HB0.out.size);have HB1:=Lh (HB0.out.trans (hbN.mono HB0.out.size));have hS1:=hS0.to hbN;rw[hwN,hY];clear hwN hY hbN hS0 HB0;(try go_frame);refine wpAnyD_two (i:=5) (j:=12) (oi:=⟨some 29,Op.call {callee:=Callee.value (Operand.func 26),args:=#[Operand.tmp 24,Operand.tmp 28],argTypes:=#[27,65]},62,_,_,_⟩) (oj:=⟨some 9,Op.alloc 27,0,_,_,_⟩) (by kernel_rfl) rfl rfl (by rfl) (by rfl) (fun K hK=>?_) (fun K hK=>?_)
     ·go_simp;go_at_call 26;refine(HD.out w1 HB1.out).mono ?_;rintro e w2 ⟨⟨o,A1,c1,A2,c2,rfl,hdo,hs1,hs2⟩,hbN⟩;have HDO:=Lh hdo;have HS12:Hid (Sl w2 (fun b=>(b≠b1)∧b≠Y7) A1 c1 o.l):=Lh (hs1.mono (fun i hi hl=>by have h8:(i≠b1∧i<wr.heap.size)∨w1.heap.size≤i:=hi.2;have h9:=HW.out;have h10:=HB1.out.size;have yY7:=HGY7.out;have zY7:=HXY71.out.lt;show(i≠b1)∧i≠Y7;omega));have HS22:Hid (Sl w2 (fun b=>(b≠b1)∧b≠Y7) A2 c2 o.l):=Lh (hs2.mono (fun i hi hl=>by have h8:(i≠b1∧i<wr.heap.size)∨w1.heap.size≤i:=hi.2;have h9:=HW.out;have h10:=HB1.out.size;have yY7:=HGY7.out;have zY7:=HXY71.out.lt;show(i≠b1)∧i≠Y7;omega));have HB2:=Lh (HB1.out.trans (hbN.mono HB1.out.size));have hS2:=hS1.to hbN;have HXY72:=Lh (HXY71.out.to hbN);clear hdo hs1 hs2 hbN hS1 HB1;go_simp;refine hK _ _ (fun _=>?_) ?_
      ·exact hS2
      clear hK K;(try go_frame);refine tE 6 ⟨some 23,Op.move (Operand.tmp 29),62,_,_,_⟩ ?_ rfl ?zq20 (hS2) ?zq21;(case zq20=>intro wS hSw;clear hSw;go_simp;(try with_reducible rfl));(all_goals try go_frame);refine tE 7 ⟨some 30,Op.extract (Operand.tmp 23) 0,27,_,_,_⟩ ?_ rfl ?zq22 (hS2) ?zq23;(case zq22=>intro wS hSw;clear hSw;go_simp;(try with_reducible rfl));(all_goals try go_frame);refine tE 8 ⟨some 31,Op.extract (Operand.tmp 23) 1,58,_,_,_⟩ ?_ rfl ?zq24 (hS2) ?zq25;(case zq24=>intro wS hSw;clear hSw;go_simp;(try with_reducible rfl));(all_goals try go_frame);refine tE 9 ⟨some 32,Op.extract (Operand.tmp 23) 2,27,_,_,_⟩ ?_ rfl ?zq26 (hS2) ?zq27;(case zq26=>intro wS hSw;clear hSw;go_simp;(try with_reducible rfl));(all_goals try go_frame);refine tE 10 ⟨some 33,Op.extract (Operand.tmp 23) 3,58,_,_,_⟩ ?_ rfl ?zq28 (hS2) ?zq29;(case zq28=>intro wS hSw;clear hSw;go_simp;(try with_reducible rfl));(all_goals try go_frame);refine tD 12 ⟨some 9,Op.alloc 27,0,_,_,_⟩ rfl fun K hK=>?_
      go_simp;refine hK _ _ (fun _=>?_) ?_
      ·exact hS2.to ((Below.refl _ _).alloc (Nat.le_refl _) _)
      clear hK K;obtain⟨w3,hwN⟩:∃w3,w2.alloc (.cells #[.int .i64 0,.int .i64 0,.slice none 0 0] 27)=w3:=⟨_,rfl⟩;obtain⟨Y9,hY⟩:∃Y,w2.heap.size=Y:=⟨_,rfl⟩;have hbN:Below w2.heap.size w2 w3:=(by rw[←hwN];exact(Below.refl _ _).alloc (Nat.le_refl _) _);have HXY93:Hid (ABox w3 Y9 27 [.int .i64 0,.int .i64 0,.slice none 0 0]):=Lh (by rw[←hwN,←hY];exact heap_alloc_new w2 _);have HGY9:Hid (wr.heap.size≤Y9):=Lh (by rw[←hY];exact HB2.out.size);have HB3:=Lh (HB2.out.trans (hbN.mono HB2.out.size));have hS3:=hS2.to hbN;have HNE:Hid (Y7≠Y9):=Lh (by have:=HXY72.out.lt;omega);have HXY73:=Lh (HXY72.out.to hbN);have HS13:Hid (Sl w3 (fun b=>((b≠b1)∧b≠Y7)∧b≠Y9) A1 c1 o.l):=Lh ((HS12.out.mono (fun i hi hl=>⟨hi,by omega⟩)).keep (Kept.all hbN) hbN.size);have HS23:Hid (Sl w3 (fun b=>((b≠b1)∧b≠Y7)∧b≠Y9) A2 c2 o.l):=Lh ((HS22.out.mono (fun i hi hl=>⟨hi,by omega⟩)).keep (Kept.all hbN) hbN.size);rw[hwN,hY];clear hwN hY hbN hS2 HB2;(try go_frame);refine tD 13 ⟨none,Op.store 27 (Operand.tmp 7) (Operand.tmp 30),0,_,_,_⟩ rfl fun K hK=>?_
      have r0:=HXY73.out.cell 0 rfl;have r1:=HXY73.out.cell 1 rfl;have r2:=HXY73.out.cell 2 rfl;have f0:=HXY73.out.fz 0;have f1:=HXY73.out.fz 1;have f2:=HXY73.out.fz 2;go_simp;refine hK _ _ (fun _=>?_) ?_
      ·exact hS3.s3 (by have:=HW.out;have:=HGY7.out;omega) (by have:=HRS.out.lt;have:=HGY7.out;omega) _ _ _
      clear hK K;clear r0 r1 r2 f0 f1 f2;obtain⟨w4,hwN⟩:∃w4,(((w3.setCell ⟨Y7,0,none⟩ (.int .i64 o.m)).setCell ⟨Y7,1,none⟩ (.int .i64 o.h)).setCell ⟨Y7,2,none⟩ (.slice A1 o.l.length c1))=w4:=⟨_,rfl⟩;have HXY74:=Lh (abox3 HXY73.out (.int .i64 o.m) (.int .i64 o.h) (.slice A1 o.l.length c1));have HXY94:=Lh (abox_o3 HXY93.out (show Y9≠Y7 by have:=HNE.out;omega) (.int .i64 o.m) (.int .i64 o.h) (.slice A1 o.l.length c1));have HB4:=Lh (below3 HB3.out HGY7.out (.int .i64 o.m) (.int .i64 o.h) (.slice A1 o.l.length c1));have HS14:=Lh (sl_o3 (X:=Y7) HS13.out (fun q hq=>by have hq:((q≠b1)∧q≠Y7)∧q≠Y9:=hq;omega) (.int .i64 o.m) (.int .i64 o.h) (.slice A1 o.l.length c1));have HS24:=Lh (sl_o3 (X:=Y7) HS23.out (fun q hq=>by have hq:((q≠b1)∧q≠Y7)∧q≠Y9:=hq;omega) (.int .i64 o.m) (.int .i64 o.h) (.slice A1 o.l.length c1));have hS4:=hS3.s3 (X:=Y7) (by have:=HW.out;have:=HGY7.out;omega) (by have:=HRS.out.lt;have:=HGY7.out;omega) (.int .i64 o.m) (.int .i64 o.h) (.slice A1 o.l.length c1);rw[hwN];rw[hwN] at HXY74 HXY94 HB4 HS14 HS24 hS4;clear hwN hS3 HXY73 HXY93 HB3 HS13 HS23;(try simp only[Act.put]);refine tD 14 ⟨some 8,Op.assign (Operand.tmp 31),58,_,_,_⟩ rfl fun K hK=>?_
      go_simp;refine hK _ _ (fun _=>?_) ?_
      ·exact hS4
      clear hK K;(try go_frame);refine tD 15 ⟨none,Op.store 27 (Operand.tmp 9) (Operand.tmp 32),0,_,_,_⟩ rfl fun K hK=>?_
      have r0:=HXY94.out.cell 0 rfl;have r1:=HXY94.out.cell 1 rfl;have r2:=HXY94.out.cell 2 rfl;have f0:=HXY94.out.fz 0;have f1:=HXY94.out.fz 1;have f2:=HXY94.out.fz 2;go_simp;refine hK _ _ (fun _=>?_) ?_
      ·exact hS4.s3 (by have:=HW.out;have:=HGY9.out;omega) (by have:=HRS.out.lt;have:=HGY9.out;omega) _ _ _
      clear hK K;clear r0 r1 r2 f0 f1 f2;obtain⟨w5,hwN⟩:∃w5,(((w4.setCell ⟨Y9,0,none⟩ (.int .i64 o.m)).setCell ⟨Y9,1,none⟩ (.int .i64 o.h)).setCell ⟨Y9,2,none⟩ (.slice A2 o.l.length c2))=w5:=⟨_,rfl⟩;have HXY95:=Lh (abox3 HXY94.out (.int .i64 o.m) (.int .i64 o.h) (.slice A2 o.l.length c2));have HXY75:=Lh (abox_o3 HXY74.out (show Y7≠Y9 by have:=HNE.out;omega) (.int .i64 o.m) (.int .i64 o.h) (.slice A2 o.l.length c2));have HB5:=Lh (below3 HB4.out HGY9.out (.int .i64 o.m) (.int .i64 o.h) (.slice A2 o.l.length c2));have HS15:=Lh (sl_o3 (X:=Y9) HS14.out (fun q hq=>by have hq:((q≠b1)∧q≠Y7)∧q≠Y9:=hq;omega) (.int .i64 o.m) (.int .i64 o.h) (.slice A2 o.l.length c2));have HS25:=Lh (sl_o3 (X:=Y9) HS24.out (fun q hq=>by have hq:((q≠b1)∧q≠Y7)∧q≠Y9:=hq;omega) (.int .i64 o.m) (.int .i64 o.h) (.slice A2 o.l.length c2));have hS5:=hS4.s3 (X:=Y9) (by have:=HW.out;have:=HGY9.out;omega) (by have:=HRS.out.lt;have:=HGY9.out;omega) (.int .i64 o.m) (.int .i64 o.h) (.slice A2 o.l.length c2);rw[hwN];rw[hwN] at HXY95 HXY75 HB5 HS15 HS25 hS5;clear hwN hS4 HXY94 HXY74 HB4 HS14 HS24;(try simp only[Act.put]);refine tD 16 ⟨some 10,Op.assign (Operand.tmp 33),58,_,_,_⟩ rfl fun K hK=>?_
      go_simp;refine hK _ _ (fun _=>?_) ?_
      ·exact hS5
      clear hK K;(try go_frame);refine wpAnyD_done (by kernel_rfl) ?_ _;unfold Exit.then;go_wp2_with fail;go_meet;exact⟨o,A1,c1,A2,c2,Y7,Y9,rfl,rfl,rfl,rfl,Lh ⟨HC.out.to HB5.out,HDO.out,HXY75.out,HXY95.out,HS15.out.mono (fun i hi hl=>⟨hl,by have hi:((i≠b1)∧i≠Y7)∧i≠Y9:=hi;omega⟩),HS25.out.mono (fun i hi hl=>⟨hl,by have hi:((i≠b1)∧i≠Y7)∧i≠Y9:=hi;omega⟩),by have h1:=HW.out;have h2:=HGY7.out;have h3:=HGY9.out;omega⟩⟩
     ·go_simp;refine hK _ _ (fun _=>?_) ?_
      ·exact hS1.to ((Below.refl _ _).alloc (Nat.le_refl _) _)
      clear hK K;obtain⟨w2,hwN⟩:∃w2,w1.alloc (.cells #[.int .i64 0,.int .i64 0,.slice none 0 0] 27)=w2:=⟨_,rfl⟩;obtain⟨Y9,hY⟩:∃Y,w1.heap.size=Y:=⟨_,rfl⟩;have hbN:Below w1.heap.size w1 w2:=(by rw[←hwN];exact(Below.refl _ _).alloc (Nat.le_refl _) _);have HXY92:Hid (ABox w2 Y9 27 [.int .i64 0,.int .i64 0,.slice none 0 0]):=Lh (by rw[←hwN,←hY];exact heap_alloc_new w1 _);have HGY9:Hid (wr.heap.size≤Y9):=Lh (by rw[←hY];exact HB1.out.size);have HB2:=Lh (HB1.out.trans (hbN.mono HB1.out.size));have hS2:=hS1.to hbN;have HNE:Hid (Y7≠Y9):=Lh (by have:=HXY71.out.lt;omega);have HXY72:=Lh (HXY71.out.to hbN);rw[hwN,hY];clear hwN hY hbN hS1 HB1;(try go_frame);refine tD 5 ⟨some 29,Op.call {callee:=Callee.value (Operand.func 26),args:=#[Operand.tmp 24,Operand.tmp 28],argTypes:=#[27,65]},62,_,_,_⟩ rfl fun K hK=>?_
      go_simp;go_at_call 26;refine(HD.out w2 HB2.out).mono ?_;rintro e w3 ⟨⟨o,A1,c1,A2,c2,rfl,hdo,hs1,hs2⟩,hbN⟩;have HDO:=Lh hdo;have HS13:Hid (Sl w3 (fun b=>((b≠b1)∧b≠Y7)∧b≠Y9) A1 c1 o.l):=Lh (hs1.mono (fun i hi hl=>by have h8:(i≠b1∧i<wr.heap.size)∨w2.heap.size≤i:=hi.2;have h9:=HW.out;have h10:=HB2.out.size;have yY7:=HGY7.out;have zY7:=HXY72.out.lt;have yY9:=HGY9.out;have zY9:=HXY92.out.lt;show((i≠b1)∧i≠Y7)∧i≠Y9;omega));have HS23:Hid (Sl w3 (fun b=>((b≠b1)∧b≠Y7)∧b≠Y9) A2 c2 o.l):=Lh (hs2.mono (fun i hi hl=>by have h8:(i≠b1∧i<wr.heap.size)∨w2.heap.size≤i:=hi.2;have h9:=HW.out;have h10:=HB2.out.size;have yY7:=HGY7.out;have zY7:=HXY72.out.lt;have yY9:=HGY9.out;have zY9:=HXY92.out.lt;show((i≠b1)∧i≠Y7)∧i≠Y9;omega));have HB3:=Lh (HB2.out.trans (hbN.mono HB2.out.size));have hS3:=hS2.to hbN;have HXY73:=Lh (HXY72.out.to hbN);have HXY93:=Lh (HXY92.out.to hbN);clear hdo hs1 hs2 hbN hS2 HB2;go_simp;refine hK _ _ (fun _=>?_) ?_
      ·exact hS3
      clear hK K;(try go_frame);refine tE 6 ⟨some 23,Op.move (Operand.tmp 29),62,_,_,_⟩ ?_ rfl ?zq30 (hS3) ?zq31;(case zq30=>intro wS hSw;clear hSw;go_simp;(try with_reducible rfl));(all_goals try go_frame);refine tE 7 ⟨some 30,Op.extract (Operand.tmp 23) 0,27,_,_,_⟩ ?_ rfl ?zq32 (hS3) ?zq33;(case zq32=>intro wS hSw;clear hSw;go_simp;(try with_reducible rfl));(all_goals try go_frame);refine tE 8 ⟨some 31,Op.extract (Operand.tmp 23) 1,58,_,_,_⟩ ?_ rfl ?zq34 (hS3) ?zq35;(case zq34=>intro wS hSw;clear hSw;go_simp;(try with_reducible rfl));(all_goals try go_frame);refine tE 9 ⟨some 32,Op.extract (Operand.tmp 23) 2,27,_,_,_⟩ ?_ rfl ?zq36 (hS3) ?zq37;(case zq36=>intro wS hSw;clear hSw;go_simp;(try with_reducible rfl));(all_goals try go_frame);refine tE 10 ⟨some 33,Op.extract (Operand.tmp 23) 3,58,_,_,_⟩ ?_ rfl ?zq38 (hS3) ?zq39;(case zq38=>intro wS hSw;clear hSw;go_simp;(try with_reducible rfl));(all_goals try go_frame);refine tD 13 ⟨none,Op.store 27 (Operand.tmp 7) (Operand.tmp 30),0,_,_,_⟩ rfl fun K hK=>?_
      have r0:=HXY73.out.cell 0 rfl;have r1:=HXY73.out.cell 1 rfl;have r2:=HXY73.out.cell 2 rfl;have f0:=HXY73.out.fz 0;have f1:=HXY73.out.fz 1;have f2:=HXY73.out.fz 2;go_simp;refine hK _ _ (fun _=>?_) ?_
      ·exact hS3.s3 (by have:=HW.out;have:=HGY7.out;omega) (by have:=HRS.out.lt;have:=HGY7.out;omega) _ _ _
      clear hK K;clear r0 r1 r2 f0 f1 f2;obtain⟨w4,hwN⟩:∃w4,(((w3.setCell ⟨Y7,0,none⟩ (.int .i64 o.m)).setCell ⟨Y7,1,none⟩ (.int .i64 o.h)).setCell ⟨Y7,2,none⟩ (.slice A1 o.l.length c1))=w4:=⟨_,rfl⟩;have HXY74:=Lh (abox3 HXY73.out (.int .i64 o.m) (.int .i64 o.h) (.slice A1 o.l.length c1));have HXY94:=Lh (abox_o3 HXY93.out (show Y9≠Y7 by have:=HNE.out;omega) (.int .i64 o.m) (.int .i64 o.h) (.slice A1 o.l.length c1));have HB4:=Lh (below3 HB3.out HGY7.out (.int .i64 o.m) (.int .i64 o.h) (.slice A1 o.l.length c1));have HS14:=Lh (sl_o3 (X:=Y7) HS13.out (fun q hq=>by have hq:((q≠b1)∧q≠Y7)∧q≠Y9:=hq;omega) (.int .i64 o.m) (.int .i64 o.h) (.slice A1 o.l.length c1));have HS24:=Lh (sl_o3 (X:=Y7) HS23.out (fun q hq=>by have hq:((q≠b1)∧q≠Y7)∧q≠Y9:=hq;omega) (.int .i64 o.m) (.int .i64 o.h) (.slice A1 o.l.length c1));have hS4:=hS3.s3 (X:=Y7) (by have:=HW.out;have:=HGY7.out;omega) (by have:=HRS.out.lt;have:=HGY7.out;omega) (.int .i64 o.m) (.int .i64 o.h) (.slice A1 o.l.length c1);rw[hwN];rw[hwN] at HXY74 HXY94 HB4 HS14 HS24 hS4;clear hwN hS3 HXY73 HXY93 HB3 HS13 HS23;(try simp only[Act.put]);refine tD 14 ⟨some 8,Op.assign (Operand.tmp 31),58,_,_,_⟩ rfl fun K hK=>?_
      go_simp;refine hK _ _ (fun _=>?_) ?_
      ·exact hS4
      clear hK K;(try go_frame);refine tD 15 ⟨none,Op.store 27 (Operand.tmp 9) (Operand.tmp 32),0,_,_,_⟩ rfl fun K hK=>?_
      have r0:=HXY94.out.cell 0 rfl;have r1:=HXY94.out.cell 1 rfl;have r2:=HXY94.out.cell 2 rfl;have f0:=HXY94.out.fz 0;have f1:=HXY94.out.fz 1;have f2:=HXY94.out.fz 2;go_simp;refine hK _ _ (fun _=>?_) ?_
      ·exact hS4.s3 (by have:=HW.out;have:=HGY9.out;omega) (by have:=HRS.out.lt;have:=HGY9.out;omega) _ _ _
      clear hK K;clear r0 r1 r2 f0 f1 f2;obtain⟨w5,hwN⟩:∃w5,(((w4.setCell ⟨Y9,0,none⟩ (.int .i64 o.m)).setCell ⟨Y9,1,none⟩ (.int .i64 o.h)).setCell ⟨Y9,2,none⟩ (.slice A2 o.l.length c2))=w5:=⟨_,rfl⟩;have HXY95:=Lh (abox3 HXY94.out (.int .i64 o.m) (.int .i64 o.h) (.slice A2 o.l.length c2));have HXY75:=Lh (abox_o3 HXY74.out (show Y7≠Y9 by have:=HNE.out;omega) (.int .i64 o.m) (.int .i64 o.h) (.slice A2 o.l.length c2));have HB5:=Lh (below3 HB4.out HGY9.out (.int .i64 o.m) (.int .i64 o.h) (.slice A2 o.l.length c2));have HS15:=Lh (sl_o3 (X:=Y9) HS14.out (fun q hq=>by have hq:((q≠b1)∧q≠Y7)∧q≠Y9:=hq;omega) (.int .i64 o.m) (.int .i64 o.h) (.slice A2 o.l.length c2));have HS25:=Lh (sl_o3 (X:=Y9) HS24.out (fun q hq=>by have hq:((q≠b1)∧q≠Y7)∧q≠Y9:=hq;omega) (.int .i64 o.m) (.int .i64 o.h) (.slice A2 o.l.length c2));have hS5:=hS4.s3 (X:=Y9) (by have:=HW.out;have:=HGY9.out;omega) (by have:=HRS.out.lt;have:=HGY9.out;omega) (.int .i64 o.m) (.int .i64 o.h) (.slice A2 o.l.length c2);rw[hwN];rw[hwN] at HXY95 HXY75 HB5 HS15 HS25 hS5;clear hwN hS4 HXY94 HXY74 HB4 HS14 HS24;(try simp only[Act.put]);refine tD 16 ⟨some 10,Op.assign (Operand.tmp 33),58,_,_,_⟩ rfl fun K hK=>?_
      go_simp;refine hK _ _ (fun _=>?_) ?_
      ·exact hS5
      clear hK K;(try go_frame);refine wpAnyD_done (by kernel_rfl) ?_ _;unfold Exit.then;go_wp2_with fail;go_meet;exact⟨o,A1,c1,A2,c2,Y7,Y9,rfl,rfl,rfl,rfl,Lh ⟨HC.out.to HB5.out,HDO.out,HXY75.out,HXY95.out,HS15.out.mono (fun i hi hl=>⟨hl,by have hi:((i≠b1)∧i≠Y7)∧i≠Y9:=hi;omega⟩),HS25.out.mono (fun i hi hl=>⟨hl,by have hi:((i≠b1)∧i≠Y7)∧i≠Y9:=hi;omega⟩),by have h1:=HW.out;have h2:=HGY7.out;have h3:=HGY9.out;omega⟩⟩
    ·go_simp;refine hK _ _ (fun _=>?_) ?_
     ·exact hS0.to ((Below.refl _ _).alloc (Nat.le_refl _) _)
     clear hK K;obtain⟨w1,hwN⟩:∃w1,w0.alloc (.cells #[.int .i64 0,.int .i64 0,.slice none 0 0] 27)=w1:=⟨_,rfl⟩;obtain⟨Y9,hY⟩:∃Y,w0.heap.size=Y:=⟨_,rfl⟩;have hbN:Below w0.heap.size w0 w1:=(by rw[←hwN];exact(Below.refl _ _).alloc (Nat.le_refl _) _);have HXY91:Hid (ABox w1 Y9 27 [.int .i64 0,.int .i64 0,.slice none 0 0]):=Lh (by rw[←hwN,←hY];exact heap_alloc_new w0 _);have HGY9:Hid (wr.heap.size≤Y9):=Lh (by rw[←hY];exact HB0.out.size);have HB1:=Lh (HB0.out.trans (hbN.mono HB0.out.size));have hS1:=hS0.to hbN;rw[hwN,hY];clear hwN hY hbN hS0 HB0;(try go_frame);refine wpAnyD_two (i:=5) (j:=11) (oi:=⟨some 29,Op.call {callee:=Callee.value (Operand.func 26),args:=#[Operand.tmp 24,Operand.tmp 28],argTypes:=#[27,65]},62,_,_,_⟩) (oj:=⟨some 7,Op.alloc 27,0,_,_,_⟩) (by kernel_rfl) rfl rfl (by rfl) (by rfl) (fun K hK=>?_) (fun K hK=>?_)
     ·go_simp;go_at_call 26;refine(HD.out w1 HB1.out).mono ?_;rintro e w2 ⟨⟨o,A1,c1,A2,c2,rfl,hdo,hs1,hs2⟩,hbN⟩;have HDO:=Lh hdo;have HS12:Hid (Sl w2 (fun b=>(b≠b1)∧b≠Y9) A1 c1 o.l):=Lh (hs1.mono (fun i hi hl=>by have h8:(i≠b1∧i<wr.heap.size)∨w1.heap.size≤i:=hi.2;have h9:=HW.out;have h10:=HB1.out.size;have yY9:=HGY9.out;have zY9:=HXY91.out.lt;show(i≠b1)∧i≠Y9;omega));have HS22:Hid (Sl w2 (fun b=>(b≠b1)∧b≠Y9) A2 c2 o.l):=Lh (hs2.mono (fun i hi hl=>by have h8:(i≠b1∧i<wr.heap.size)∨w1.heap.size≤i:=hi.2;have h9:=HW.out;have h10:=HB1.out.size;have yY9:=HGY9.out;have zY9:=HXY91.out.lt;show(i≠b1)∧i≠Y9;omega));have HB2:=Lh (HB1.out.trans (hbN.mono HB1.out.size));have hS2:=hS1.to hbN;have HXY92:=Lh (HXY91.out.to hbN);clear hdo hs1 hs2 hbN hS1 HB1;go_simp;refine hK _ _ (fun _=>?_) ?_
      ·exact hS2
      clear hK K;(try go_frame);refine tE 6 ⟨some 23,Op.move (Operand.tmp 29),62,_,_,_⟩ ?_ rfl ?zq40 (hS2) ?zq41;(case zq40=>intro wS hSw;clear hSw;go_simp;(try with_reducible rfl));(all_goals try go_frame);refine tE 7 ⟨some 30,Op.extract (Operand.tmp 23) 0,27,_,_,_⟩ ?_ rfl ?zq42 (hS2) ?zq43;(case zq42=>intro wS hSw;clear hSw;go_simp;(try with_reducible rfl));(all_goals try go_frame);refine tE 8 ⟨some 31,Op.extract (Operand.tmp 23) 1,58,_,_,_⟩ ?_ rfl ?zq44 (hS2) ?zq45;(case zq44=>intro wS hSw;clear hSw;go_simp;(try with_reducible rfl));(all_goals try go_frame);refine tE 9 ⟨some 32,Op.extract (Operand.tmp 23) 2,27,_,_,_⟩ ?_ rfl ?zq46 (hS2) ?zq47;(case zq46=>intro wS hSw;clear hSw;go_simp;(try with_reducible rfl));(all_goals try go_frame);refine tE 10 ⟨some 33,Op.extract (Operand.tmp 23) 3,58,_,_,_⟩ ?_ rfl ?zq48 (hS2) ?zq49;(case zq48=>intro wS hSw;clear hSw;go_simp;(try with_reducible rfl));(all_goals try go_frame);refine tD 11 ⟨some 7,Op.alloc 27,0,_,_,_⟩ rfl fun K hK=>?_
      go_simp;refine hK _ _ (fun _=>?_) ?_
      ·exact hS2.to ((Below.refl _ _).alloc (Nat.le_refl _) _)
      clear hK K;obtain⟨w3,hwN⟩:∃w3,w2.alloc (.cells #[.int .i64 0,.int .i64 0,.slice none 0 0] 27)=w3:=⟨_,rfl⟩;obtain⟨Y7,hY⟩:∃Y,w2.heap.size=Y:=⟨_,rfl⟩;have hbN:Below w2.heap.size w2 w3:=(by rw[←hwN];exact(Below.refl _ _).alloc (Nat.le_refl _) _);have HXY73:Hid (ABox w3 Y7 27 [.int .i64 0,.int .i64 0,.slice none 0 0]):=Lh (by rw[←hwN,←hY];exact heap_alloc_new w2 _);have HGY7:Hid (wr.heap.size≤Y7):=Lh (by rw[←hY];exact HB2.out.size);have HB3:=Lh (HB2.out.trans (hbN.mono HB2.out.size));have hS3:=hS2.to hbN;have HNE:Hid (Y7≠Y9):=Lh (by have:=HXY92.out.lt;omega);have HXY93:=Lh (HXY92.out.to hbN);have HS13:Hid (Sl w3 (fun b=>((b≠b1)∧b≠Y9)∧b≠Y7) A1 c1 o.l):=Lh ((HS12.out.mono (fun i hi hl=>⟨hi,by omega⟩)).keep (Kept.all hbN) hbN.size);have HS23:Hid (Sl w3 (fun b=>((b≠b1)∧b≠Y9)∧b≠Y7) A2 c2 o.l):=Lh ((HS22.out.mono (fun i hi hl=>⟨hi,by omega⟩)).keep (Kept.all hbN) hbN.size);rw[hwN,hY];clear hwN hY hbN hS2 HB2;(try go_frame);refine tD 13 ⟨none,Op.store 27 (Operand.tmp 7) (Operand.tmp 30),0,_,_,_⟩ rfl fun K hK=>?_
      have r0:=HXY73.out.cell 0 rfl;have r1:=HXY73.out.cell 1 rfl;have r2:=HXY73.out.cell 2 rfl;have f0:=HXY73.out.fz 0;have f1:=HXY73.out.fz 1;have f2:=HXY73.out.fz 2;go_simp;refine hK _ _ (fun _=>?_) ?_
      ·exact hS3.s3 (by have:=HW.out;have:=HGY7.out;omega) (by have:=HRS.out.lt;have:=HGY7.out;omega) _ _ _
      clear hK K;clear r0 r1 r2 f0 f1 f2;obtain⟨w4,hwN⟩:∃w4,(((w3.setCell ⟨Y7,0,none⟩ (.int .i64 o.m)).setCell ⟨Y7,1,none⟩ (.int .i64 o.h)).setCell ⟨Y7,2,none⟩ (.slice A1 o.l.length c1))=w4:=⟨_,rfl⟩;have HXY74:=Lh (abox3 HXY73.out (.int .i64 o.m) (.int .i64 o.h) (.slice A1 o.l.length c1));have HXY94:=Lh (abox_o3 HXY93.out (show Y9≠Y7 by have:=HNE.out;omega) (.int .i64 o.m) (.int .i64 o.h) (.slice A1 o.l.length c1));have HB4:=Lh (below3 HB3.out HGY7.out (.int .i64 o.m) (.int .i64 o.h) (.slice A1 o.l.length c1));have HS14:=Lh (sl_o3 (X:=Y7) HS13.out (fun q hq=>by have hq:((q≠b1)∧q≠Y9)∧q≠Y7:=hq;omega) (.int .i64 o.m) (.int .i64 o.h) (.slice A1 o.l.length c1));have HS24:=Lh (sl_o3 (X:=Y7) HS23.out (fun q hq=>by have hq:((q≠b1)∧q≠Y9)∧q≠Y7:=hq;omega) (.int .i64 o.m) (.int .i64 o.h) (.slice A1 o.l.length c1));have hS4:=hS3.s3 (X:=Y7) (by have:=HW.out;have:=HGY7.out;omega) (by have:=HRS.out.lt;have:=HGY7.out;omega) (.int .i64 o.m) (.int .i64 o.h) (.slice A1 o.l.length c1);rw[hwN];rw[hwN] at HXY74 HXY94 HB4 HS14 HS24 hS4;clear hwN hS3 HXY73 HXY93 HB3 HS13 HS23;(try simp only[Act.put]);refine tD 14 ⟨some 8,Op.assign (Operand.tmp 31),58,_,_,_⟩ rfl fun K hK=>?_
      go_simp;refine hK _ _ (fun _=>?_) ?_
      ·exact hS4
      clear hK K;(try go_frame);refine tD 15 ⟨none,Op.store 27 (Operand.tmp 9) (Operand.tmp 32),0,_,_,_⟩ rfl fun K hK=>?_
      have r0:=HXY94.out.cell 0 rfl;have r1:=HXY94.out.cell 1 rfl;have r2:=HXY94.out.cell 2 rfl;have f0:=HXY94.out.fz 0;have f1:=HXY94.out.fz 1;have f2:=HXY94.out.fz 2;go_simp;refine hK _ _ (fun _=>?_) ?_
      ·exact hS4.s3 (by have:=HW.out;have:=HGY9.out;omega) (by have:=HRS.out.lt;have:=HGY9.out;omega) _ _ _
      clear hK K;clear r0 r1 r2 f0 f1 f2;obtain⟨w5,hwN⟩:∃w5,(((w4.setCell ⟨Y9,0,none⟩ (.int .i64 o.m)).setCell ⟨Y9,1,none⟩ (.int .i64 o.h)).setCell ⟨Y9,2,none⟩ (.slice A2 o.l.length c2))=w5:=⟨_,rfl⟩;have HXY95:=Lh (abox3 HXY94.out (.int .i64 o.m) (.int .i64 o.h) (.slice A2 o.l.length c2));have HXY75:=Lh (abox_o3 HXY74.out (show Y7≠Y9 by have:=HNE.out;omega) (.int .i64 o.m) (.int .i64 o.h) (.slice A2 o.l.length c2));have HB5:=Lh (below3 HB4.out HGY9.out (.int .i64 o.m) (.int .i64 o.h) (.slice A2 o.l.length c2));have HS15:=Lh (sl_o3 (X:=Y9) HS14.out (fun q hq=>by have hq:((q≠b1)∧q≠Y9)∧q≠Y7:=hq;omega) (.int .i64 o.m) (.int .i64 o.h) (.slice A2 o.l.length c2));have HS25:=Lh (sl_o3 (X:=Y9) HS24.out (fun q hq=>by have hq:((q≠b1)∧q≠Y9)∧q≠Y7:=hq;omega) (.int .i64 o.m) (.int .i64 o.h) (.slice A2 o.l.length c2));have hS5:=hS4.s3 (X:=Y9) (by have:=HW.out;have:=HGY9.out;omega) (by have:=HRS.out.lt;have:=HGY9.out;omega) (.int .i64 o.m) (.int .i64 o.h) (.slice A2 o.l.length c2);rw[hwN];rw[hwN] at HXY95 HXY75 HB5 HS15 HS25 hS5;clear hwN hS4 HXY94 HXY74 HB4 HS14 HS24;(try simp only[Act.put]);refine tD 16 ⟨some 10,Op.assign (Operand.tmp 33),58,_,_,_⟩ rfl fun K hK=>?_
      go_simp;refine hK _ _ (fun _=>?_) ?_
      ·exact hS5
      clear hK K;(try go_frame);refine wpAnyD_done (by kernel_rfl) ?_ _;unfold Exit.then;go_wp2_with fail;go_meet;exact⟨o,A1,c1,A2,c2,Y7,Y9,rfl,rfl,rfl,rfl,Lh ⟨HC.out.to HB5.out,HDO.out,HXY75.out,HXY95.out,HS15.out.mono (fun i hi hl=>⟨hl,by have hi:((i≠b1)∧i≠Y9)∧i≠Y7:=hi;omega⟩),HS25.out.mono (fun i hi hl=>⟨hl,by have hi:((i≠b1)∧i≠Y9)∧i≠Y7:=hi;omega⟩),by have h1:=HW.out;have h2:=HGY7.out;have h3:=HGY9.out;omega⟩⟩
     ·go_simp;refine hK _ _ (fun _=>?_) ?_
      ·exact hS1.to ((Below.refl _ _).alloc (Nat.le_refl _) _)
      clear hK K;obtain⟨w2,hwN⟩:∃w2,w1.alloc (.cells #[.int .i64 0,.int .i64 0,.slice none 0 0] 27)=w2:=⟨_,rfl⟩;obtain⟨Y7,hY⟩:∃Y,w1.heap.size=Y:=⟨_,rfl⟩;have hbN:Below w1.heap.size w1 w2:=(by rw[←hwN];exact(Below.refl _ _).alloc (Nat.le_refl _) _);have HXY72:Hid (ABox w2 Y7 27 [.int .i64 0,.int .i64 0,.slice none 0 0]):=Lh (by rw[←hwN,←hY];exact heap_alloc_new w1 _);have HGY7:Hid (wr.heap.size≤Y7):=Lh (by rw[←hY];exact HB1.out.size);have HB2:=Lh (HB1.out.trans (hbN.mono HB1.out.size));have hS2:=hS1.to hbN;have HNE:Hid (Y7≠Y9):=Lh (by have:=HXY91.out.lt;omega);have HXY92:=Lh (HXY91.out.to hbN);rw[hwN,hY];clear hwN hY hbN hS1 HB1;(try go_frame);refine tD 5 ⟨some 29,Op.call {callee:=Callee.value (Operand.func 26),args:=#[Operand.tmp 24,Operand.tmp 28],argTypes:=#[27,65]},62,_,_,_⟩ rfl fun K hK=>?_
      go_simp;go_at_call 26;refine(HD.out w2 HB2.out).mono ?_;rintro e w3 ⟨⟨o,A1,c1,A2,c2,rfl,hdo,hs1,hs2⟩,hbN⟩;have HDO:=Lh hdo;have HS13:Hid (Sl w3 (fun b=>((b≠b1)∧b≠Y9)∧b≠Y7) A1 c1 o.l):=Lh (hs1.mono (fun i hi hl=>by have h8:(i≠b1∧i<wr.heap.size)∨w2.heap.size≤i:=hi.2;have h9:=HW.out;have h10:=HB2.out.size;have yY9:=HGY9.out;have zY9:=HXY92.out.lt;have yY7:=HGY7.out;have zY7:=HXY72.out.lt;show((i≠b1)∧i≠Y9)∧i≠Y7;omega));have HS23:Hid (Sl w3 (fun b=>((b≠b1)∧b≠Y9)∧b≠Y7) A2 c2 o.l):=Lh (hs2.mono (fun i hi hl=>by have h8:(i≠b1∧i<wr.heap.size)∨w2.heap.size≤i:=hi.2;have h9:=HW.out;have h10:=HB2.out.size;have yY9:=HGY9.out;have zY9:=HXY92.out.lt;have yY7:=HGY7.out;have zY7:=HXY72.out.lt;show((i≠b1)∧i≠Y9)∧i≠Y7;omega));have HB3:=Lh (HB2.out.trans (hbN.mono HB2.out.size));have hS3:=hS2.to hbN;have HXY93:=Lh (HXY92.out.to hbN);have HXY73:=Lh (HXY72.out.to hbN);clear hdo hs1 hs2 hbN hS2 HB2;go_simp;refine hK _ _ (fun _=>?_) ?_
      ·exact hS3
      clear hK K;(try go_frame);refine tE 6 ⟨some 23,Op.move (Operand.tmp 29),62,_,_,_⟩ ?_ rfl ?zq50 (hS3) ?zq51;(case zq50=>intro wS hSw;clear hSw;go_simp;(try with_reducible rfl));(all_goals try go_frame);refine tE 7 ⟨some 30,Op.extract (Operand.tmp 23) 0,27,_,_,_⟩ ?_ rfl ?zq52 (hS3) ?zq53;(case zq52=>intro wS hSw;clear hSw;go_simp;(try with_reducible rfl));(all_goals try go_frame);refine tE 8 ⟨some 31,Op.extract (Operand.tmp 23) 1,58,_,_,_⟩ ?_ rfl ?zq54 (hS3) ?zq55;(case zq54=>intro wS hSw;clear hSw;go_simp;(try with_reducible rfl));(all_goals try go_frame);refine tE 9 ⟨some 32,Op.extract (Operand.tmp 23) 2,27,_,_,_⟩ ?_ rfl ?zq56 (hS3) ?zq57;(case zq56=>intro wS hSw;clear hSw;go_simp;(try with_reducible rfl));(all_goals try go_frame);refine tE 10 ⟨some 33,Op.extract (Operand.tmp 23) 3,58,_,_,_⟩ ?_ rfl ?zq58 (hS3) ?zq59;(case zq58=>intro wS hSw;clear hSw;go_simp;(try with_reducible rfl));(all_goals try go_frame);refine tD 13 ⟨none,Op.store 27 (Operand.tmp 7) (Operand.tmp 30),0,_,_,_⟩ rfl fun K hK=>?_
      have r0:=HXY73.out.cell 0 rfl;have r1:=HXY73.out.cell 1 rfl;have r2:=HXY73.out.cell 2 rfl;have f0:=HXY73.out.fz 0;have f1:=HXY73.out.fz 1;have f2:=HXY73.out.fz 2;go_simp;refine hK _ _ (fun _=>?_) ?_
      ·exact hS3.s3 (by have:=HW.out;have:=HGY7.out;omega) (by have:=HRS.out.lt;have:=HGY7.out;omega) _ _ _
      clear hK K;clear r0 r1 r2 f0 f1 f2;obtain⟨w4,hwN⟩:∃w4,(((w3.setCell ⟨Y7,0,none⟩ (.int .i64 o.m)).setCell ⟨Y7,1,none⟩ (.int .i64 o.h)).setCell ⟨Y7,2,none⟩ (.slice A1 o.l.length c1))=w4:=⟨_,rfl⟩;have HXY74:=Lh (abox3 HXY73.out (.int .i64 o.m) (.int .i64 o.h) (.slice A1 o.l.length c1));have HXY94:=Lh (abox_o3 HXY93.out (show Y9≠Y7 by have:=HNE.out;omega) (.int .i64 o.m) (.int .i64 o.h) (.slice A1 o.l.length c1));have HB4:=Lh (below3 HB3.out HGY7.out (.int .i64 o.m) (.int .i64 o.h) (.slice A1 o.l.length c1));have HS14:=Lh (sl_o3 (X:=Y7) HS13.out (fun q hq=>by have hq:((q≠b1)∧q≠Y9)∧q≠Y7:=hq;omega) (.int .i64 o.m) (.int .i64 o.h) (.slice A1 o.l.length c1));have HS24:=Lh (sl_o3 (X:=Y7) HS23.out (fun q hq=>by have hq:((q≠b1)∧q≠Y9)∧q≠Y7:=hq;omega) (.int .i64 o.m) (.int .i64 o.h) (.slice A1 o.l.length c1));have hS4:=hS3.s3 (X:=Y7) (by have:=HW.out;have:=HGY7.out;omega) (by have:=HRS.out.lt;have:=HGY7.out;omega) (.int .i64 o.m) (.int .i64 o.h) (.slice A1 o.l.length c1);rw[hwN];rw[hwN] at HXY74 HXY94 HB4 HS14 HS24 hS4;clear hwN hS3 HXY73 HXY93 HB3 HS13 HS23;(try simp only[Act.put]);refine tD 14 ⟨some 8,Op.assign (Operand.tmp 31),58,_,_,_⟩ rfl fun K hK=>?_
      go_simp;refine hK _ _ (fun _=>?_) ?_
      ·exact hS4
      clear hK K;(try go_frame);refine tD 15 ⟨none,Op.store 27 (Operand.tmp 9) (Operand.tmp 32),0,_,_,_⟩ rfl fun K hK=>?_
      have r0:=HXY94.out.cell 0 rfl;have r1:=HXY94.out.cell 1 rfl;have r2:=HXY94.out.cell 2 rfl;have f0:=HXY94.out.fz 0;have f1:=HXY94.out.fz 1;have f2:=HXY94.out.fz 2;go_simp;refine hK _ _ (fun _=>?_) ?_
      ·exact hS4.s3 (by have:=HW.out;have:=HGY9.out;omega) (by have:=HRS.out.lt;have:=HGY9.out;omega) _ _ _
      clear hK K;clear r0 r1 r2 f0 f1 f2;obtain⟨w5,hwN⟩:∃w5,(((w4.setCell ⟨Y9,0,none⟩ (.int .i64 o.m)).setCell ⟨Y9,1,none⟩ (.int .i64 o.h)).setCell ⟨Y9,2,none⟩ (.slice A2 o.l.length c2))=w5:=⟨_,rfl⟩;have HXY95:=Lh (abox3 HXY94.out (.int .i64 o.m) (.int .i64 o.h) (.slice A2 o.l.length c2));have HXY75:=Lh (abox_o3 HXY74.out (show Y7≠Y9 by have:=HNE.out;omega) (.int .i64 o.m) (.int .i64 o.h) (.slice A2 o.l.length c2));have HB5:=Lh (below3 HB4.out HGY9.out (.int .i64 o.m) (.int .i64 o.h) (.slice A2 o.l.length c2));have HS15:=Lh (sl_o3 (X:=Y9) HS14.out (fun q hq=>by have hq:((q≠b1)∧q≠Y9)∧q≠Y7:=hq;omega) (.int .i64 o.m) (.int .i64 o.h) (.slice A2 o.l.length c2));have HS25:=Lh (sl_o3 (X:=Y9) HS24.out (fun q hq=>by have hq:((q≠b1)∧q≠Y9)∧q≠Y7:=hq;omega) (.int .i64 o.m) (.int .i64 o.h) (.slice A2 o.l.length c2));have hS5:=hS4.s3 (X:=Y9) (by have:=HW.out;have:=HGY9.out;omega) (by have:=HRS.out.lt;have:=HGY9.out;omega) (.int .i64 o.m) (.int .i64 o.h) (.slice A2 o.l.length c2);rw[hwN];rw[hwN] at HXY95 HXY75 HB5 HS15 HS25 hS5;clear hwN hS4 HXY94 HXY74 HB4 HS14 HS24;(try simp only[Act.put]);refine tD 16 ⟨some 10,Op.assign (Operand.tmp 33),58,_,_,_⟩ rfl fun K hK=>?_
      go_simp;refine hK _ _ (fun _=>?_) ?_
      ·exact hS5
      clear hK K;(try go_frame);refine wpAnyD_done (by kernel_rfl) ?_ _;unfold Exit.then;go_wp2_with fail;go_meet;exact⟨o,A1,c1,A2,c2,Y7,Y9,rfl,rfl,rfl,rfl,Lh ⟨HC.out.to HB5.out,HDO.out,HXY75.out,HXY95.out,HS15.out.mono (fun i hi hl=>⟨hl,by have hi:((i≠b1)∧i≠Y9)∧i≠Y7:=hi;omega⟩),HS25.out.mono (fun i hi hl=>⟨hl,by have hi:((i≠b1)∧i≠Y9)∧i≠Y7:=hi;omega⟩),by have h1:=HW.out;have h2:=HGY7.out;have h3:=HGY9.out;omega⟩⟩
   case rest=>
    obtain⟨o,A1,c1,A2,c2,Y7,Y9,rfl,rfl,rfl,rfl,HG⟩:=hcut;have hok:=HG.out.d.keep HC.out.g (by omega);have hsh:ShortS o.l:=by
     by_cases he:o.e=0
     ·exact(hok.z he).2.2.short (by omega)
     ·rw[hok.no he];exact⟨by simp[noO],by simp[noO]⟩
    have HOK:=Lh hok;have HSH:=Lh hsh;have HSB:=Lh (sameBook_any A1 A2 c1 c2 o.l.length o.m o.h o.l wc (HG.out.s1.mono fun i hi _=>hi.1) (HG.out.s2.mono fun i hi _=>hi.1) rfl hsh);clear hok hsh HD HRS;have x0:=HG.out.x.cell 0 rfl;have y0:=HG.out.y.cell 0 rfl;have x1:=HG.out.x.cell 1 rfl;have y1:=HG.out.y.cell 1 rfl;have x2:=HG.out.x.cell 2 rfl;have y2:=HG.out.y.cell 2 rfl
    go_upto_region 8 with(first|(go_at_call 27;refine HSB.out.mono ?_;rintro e w6 ⟨rfl,hb6⟩;have HB6:=Lh hb6;clear hb6 x0 x1 x2 y0 y1 y2)|fail)
    have HC6:=Lh (HG.out.c.to HB6.out);have HX6:=Lh (HG.out.x.to HB6.out);have HY6:=Lh (HG.out.y.to HB6.out);have HS16:=Lh (slP_to HG.out.s1 HB6.out);have HS26:=Lh (slP_to HG.out.s2 HB6.out);have HNE:=Lh HG.out.ne;by_cases he:o.e=0
    ·obtain⟨h1,h2,h3⟩:=HOK.out.z he;have HST:=Lh h3;have HM:=Lh h1;have HH:=Lh h2;have he2:(o.e==0)=true:=(by rw[he];rfl);have y0:=HY6.out.cell 0 rfl;have r0:=HC6.out.b.cell 0 rfl;have f0:=HC6.out.b.fz 0;have y1:=HY6.out.cell 1 rfl;have r1:=HC6.out.b.cell 1 rfl;have f1:=HC6.out.b.fz 1;have y2:=HY6.out.cell 2 rfl;have r2:=HC6.out.b.cell 2 rfl;have f2:=HC6.out.b.fz 2;clear h1 h2 h3;go_upto_region 10 with(fail);obtain⟨w7,hw7⟩:∃w7,(((w6.setCell ⟨b1,0,none⟩ (.int .i64 o.m)).setCell ⟨b1,1,none⟩ (.int .i64 o.h)).setCell ⟨b1,2,none⟩ (.slice A2 o.l.length c2))=w7:=⟨_,rfl⟩;have hb7:=abox3 HC6.out.b (.int .i64 o.m) (.int .i64 o.h) (.slice A2 o.l.length c2);have hk7:=below3 HC6.out.k (Nat.le_refl b1) (.int .i64 o.m) (.int .i64 o.h) (.slice A2 o.l.length c2);have hx7:=abox_o3 HX6.out (show Y7≠b1 by have:=HNE.out;omega) (.int .i64 o.m) (.int .i64 o.h) (.slice A2 o.l.length c2);have hs1:=sl_o3 (X:=b1) HS16.out (fun q hq=>hq.2) (.int .i64 o.m) (.int .i64 o.h) (.slice A2 o.l.length c2);have hs2:=sl_o3 (X:=b1) HS26.out (fun q hq=>hq.2) (.int .i64 o.m) (.int .i64 o.h) (.slice A2 o.l.length c2);rw[hw7];rw[hw7] at hb7 hk7 hx7 hs1 hs2;have hs17:Sl w7 (fun b=>b<w7.heap.size) A1 c1 o.l:=hs1.mono (fun i hi hl=>hl);have hbr:=HV1.out.trans (hk7.mono HB1.out)
     have HCK:Hid (Calls Tryz.prog 24 #[.agg #[.int .i64 o.m,.int .i64 o.h,.slice A1 o.l.length c1]] w7 fun e w'=>e=.returned (.int .i64 0)∧Below w7.heap.size w7 w'):=Lh (by
      have:=chk_any (m:=o.m) (h:=o.h) A1 c1 w7 (HT.out.to hbr).1 hs17 HSH.out (by rw[HH.out];exact HST.out.i64) (fun _=>few (by have:=HST.out.n;omega) (fun s hs=>by have h1:=(HST.out.g.s s hs).nt;have h2:=HST.out.v s hs;omega))
      rwa [show chkE o.m o.h o.l=0 by rw[HM.out,HH.out];exact HST.out.g.noerr] at this)
     have HX7:=Lh hx7;rw[HM.out,HH.out] at hb7;have HC7:Hid (CgI V1 b1 m h (k+1) o.l A2 c2 w7):=Lh ⟨hb7,HST.out,hs2.mono (fun i hi hl=>⟨hl,hi.2⟩),hk7⟩;clear hw7 hb7 hk7 hx7 hs1 hs2 hs17 hbr he2 y0 r0 f0 y1 r1 f1 y2 r2 f2;have x0:=HX7.out.cell 0 rfl;have x1:=HX7.out.cell 1 rfl;have x2:=HX7.out.cell 2 rfl
     go_wp2_with (first|(go_at_call 24;refine HCK.out.mono ?_;rintro e w8 ⟨rfl,hb8⟩;have HC8:=Lh (HC7.out.to hb8);clear hb8 x0 x1 x2)|fail)
     go_roundw;(case rel=>exact⟨k+1,o.l,A2,c2,by omega,by omega,by go_num,HC8⟩);case measure=>simp[intOf];omega
    ·have he2:(o.e==0)=false:=beq_eq_false_iff_ne.2 he;go_wp2_with fail;go_roundw;(case rel=>exact⟨k+1,l,A,c,by omega,by omega,by go_num,Lh (HC6.out.st (Nat.le_succ k))⟩);case measure=>simp[intOf];omega
  ·have HL:=Lh (lives_any wr (HT.out.to HBr.out));have hx:¬(k:Int)<(n:Int)∨((k:Int)<(n:Int)∧¬(k:Int)<6):=(by omega);rcases hx with hx|⟨hx,hy⟩;all_goals
    go_wp2_with (first|(go_at_call 17;refine HL.out.mono ?_;rintro e w2 ⟨rfl,hb2⟩;have HBE:=Lh (HBr.out.trans (hb2.mono HBr.out.size));clear hb2)|fail)
    go_ret;exact⟨rfl,HBE.out⟩
end Go.Proofs.YtakaielemicpkaaGreatDoor
namespace Go.Proofs.YtakaielemicpkaaGreatDoor
open Go.ChangeShapes Go.WideShapes Go.ChangeAt Go.RowKit Go.Deep
theorem exists_list {α:Type} {Q:Nat→α→Prop} (n:Nat) (h:∀i,i<n→∃a,Q i a):∃l:List α,l.length=n∧∀i,(hi:i<l.length)→Q i l[i]:=by
 induction n with
 |zero=>exact⟨[],rfl,fun i hi=>by simp at hi⟩
 |succ n ih=>
  obtain⟨l,hl,hq⟩:=ih fun i hi=>h i (by omega)
  obtain⟨a,ha⟩:=h n (by omega);refine⟨l++[a],by simp[hl],fun i hi=>?_⟩;by_cases hin:i<l.length
  ·rw[List.getElem_append_left hin];exact hq i hin
  ·have:i=n:=by simp at hi;omega
   subst this;rw[List.getElem_append_right (by omega)];simpa using ha
theorem addr_plain {w:World} {a:Addr} {v:Value} (h:w.cell? (a.add 0)=some v):∃b o,a=⟨b,o,none⟩:=by
 obtain⟨b,o,spot⟩:=a;have hspot:spot=none:=by simpa[Addr.add] using World.cell?_spot h
 subst hspot;exact⟨b,o,rfl⟩
theorem bulk_one {H:Type} (d:DataW H):1≤Rows.uptoBulk d:=by
 cases d with
 |lit l=>cases l<;>simp[Rows.uptoBulk]
 |nil=>simp[Rows.uptoBulk]
 |ptr d=>simp[Rows.uptoBulk]
 |slice elems spare=>simp[Rows.uptoBulk]
 |agg parts=>simp[Rows.uptoBulk]
 |iface t d=>simp[Rows.uptoBulk]
 |map entries=>simp[Rows.uptoBulk]
 |held h=>simp[Rows.uptoBulk]
theorem bulk_length {H:Type} (l:List (DataW H)):l.length≤Rows.uptoBulkAll l:=by
 induction l with
 |nil=>simp[Rows.uptoBulkAll]
 |cons x r ih=>have:=bulk_one x;simp only[Rows.uptoBulkAll,List.length_cons];omega
theorem bulk_slice {H:Type} (elems spare:List (DataW H)):elems.length+spare.length+1≤Rows.uptoBulk (.slice elems spare):=by
 have h1:=bulk_length elems;have h2:=bulk_length spare;simp only[Rows.uptoBulk];omega
variable {H:Type} {enc:TypeId × Value→H} {P:Program}
theorem open_sl {α:Type} [Rep α] {t e:TypeId} {W:World} {base:Nat} {v:Value} {d:DataW H} {ps:List MemPlace} (ht:P.underlying t=some (.slice e)) (hC:P.cellsOf e=Rep.size α) (hel:∀fuel cs x,DataW.trod enc P W 0 (fun _=>true) true fuel e cs=some x→∃a:α,Rep.R W (fun b=>b<W.heap.size) cs a) (hsz:0<Rep.size α) (hval:Value.okWide P W .any base t v) (h:DataW.Trod enc P W 0 (fun _=>true) true t v d ps):
 ∃A c,∃l:List α,v=.slice A l.length c∧Sl W (fun b=>b<W.heap.size) A c l∧l.length≤Rows.uptoBulk d:=by
 obtain⟨a,len,cap,rfl⟩:=okWide_slice ht hval;obtain⟨fuel,hf⟩:=h;rcases open_slice ht hf with⟨hcs,_⟩|⟨a',len',cap',m,n,D,Pl,hcs,_,hl,hm,hmm,hx,hi⟩
 ·simp[Value.cells] at hcs;obtain⟨rfl,rfl,rfl⟩:=hcs;exact⟨none,0,[],rfl,Sl.nil _ _ _ _ (by simp[maxLen]),by simp⟩
 ·simp[Value.cells] at hcs;obtain⟨rfl,rfl,rfl⟩:=hcs;simp only[if_true] at hmm;subst hmm;rw[hC] at hi
  have hQ:∀i,i<len→∃x:α,∃es,Rep.R W (fun b=>b<W.heap.size) es x∧∀j u,es[j]? =some u→W.cell? (a'.add (i*Rep.size α+j))=some u:=by
   intro i hil;obtain⟨cs',hc,ht'⟩:=hi i (by omega);obtain⟨x,hr⟩:=hel _ _ _ ht';obtain⟨_,hlen,hat⟩:=World.cells?_some hc;refine⟨x,cs',hr,fun j u hu=>?_⟩;have hj:j<Rep.size α:=(by rw[←hlen];exact(List.getElem?_eq_some_iff.1 hu).1);rw[←Go.Deep.add_add];exact(hat j hj).trans hu
  obtain⟨l,hll,hq⟩:=exists_list len hQ;refine⟨some a',m,l,by rw[hll],⟨by omega,hm,fun h0=>?_⟩,?_⟩
  ·obtain⟨es,hr,hc⟩:=hq 0 h0;have hel0:=Rep.len hr;obtain⟨b,o,rfl⟩:=addr_plain (by simpa using hc 0 _ (List.getElem?_eq_getElem (by omega)));have hlt:=World.block_lt_of_cell? W _ (hc 0 _ (List.getElem?_eq_getElem (by omega)));rw[addr_add] at hlt;refine⟨b,o,rfl,hlt,hlt,fun i hil=>?_⟩;obtain⟨es,hr,hc⟩:=hq i hil;refine⟨es,hr,fun j u hu=>?_⟩;have:=hc j u hu;rwa [addr_add,←Nat.add_assoc] at this
  ·simp only[Prod.mk.injEq] at hx;rw[hx.1,hll];have:=bulk_slice ((List.range len).map D) ((List.range (m-len)).map fun j=>D (len+j));simp only[List.length_map,List.length_range] at this;omega
end Go.Proofs.YtakaielemicpkaaGreatDoor
namespace Go.Proofs.YtakaielemicpkaaGreatDoor
open Go.ChangeShapes Go.WideShapes Go.ChangeAt Go.RowKit Go.Deep
variable {H:Type} {enc:TypeId × Value→H} {P:Program}
theorem open_ints_sl {t e:TypeId} {W:World} {base:Nat} {v:Value} {d:DataW H} {ps:List MemPlace} (ht:P.underlying t=some (.slice e)) (he:P.underlying e=some (.int .i64)) (hc:P.cellsOf e=1) (hval:Value.okWide P W .any base t v) (h:DataW.Trod enc P W 0 (fun _=>true) true t v d ps):∃A c,∃l:List Int,v=.slice A l.length c∧Sl W (fun b=>b<W.heap.size) A c l:=by
 obtain⟨a,len,cap,rfl⟩:=okWide_slice ht hval;obtain⟨fuel,hf⟩:=h;rcases open_ints ht he hc hf with⟨hcs,_⟩|⟨a',len',cap',zs,hcs,_,hl,hm,hz,_,hcell,hwf⟩
 ·simp[Value.cells] at hcs;obtain⟨rfl,rfl,rfl⟩:=hcs;exact⟨none,0,[],rfl,Sl.nil _ _ _ _ (by simp[maxLen])⟩
 ·simp[Value.cells] at hcs;obtain⟨rfl,rfl,rfl⟩:=hcs;have hz':zs.length=cap:=(by simpa using hz);have hlt:(zs.take len).length=len:=(by rw[List.length_take];omega);refine⟨some a',cap,zs.take len,by rw[hlt],by rw[hlt];exact hl,hm,fun h0=>?_⟩;obtain⟨b,o,rfl,hat⟩:=Go.ints_at hcell (by omega);refine⟨b,o,rfl,World.block_lt_of_cell? W _ (hat 0 (by omega)),World.block_lt_of_cell? W _ (hat 0 (by omega)),fun i hi=>?_⟩;rw[hlt] at hi
  have e:zs.getD i 0=(zs.take len)[i]'(by omega):=by
   rw[List.getElem_take,List.getD_eq_getElem?_getD,List.getElem?_eq_getElem (by omega)];rfl
  refine⟨[.int .i64 (zs.getD i 0)],⟨by rw[e],?_⟩,fun j u hu=>?_⟩
  ·exact i64_wf (hwf _ (List.mem_of_mem_take (List.getElem_mem (by omega))))
  ·have hj:j=0:=by
    rcases j with _|j
    ·rfl
    ·simp at hu
   subst hj;simp only[List.getElem?_cons_zero,Option.some.injEq] at hu;subst hu;have:=hat i (by omega);show W.cell? ⟨b,o+i*1+0,none⟩=_;rw[Nat.mul_one,Nat.add_zero];exact this
end Go.Proofs.YtakaielemicpkaaGreatDoor
namespace Go.Proofs.YtakaielemicpkaaGreatDoor
open Go.ChangeShapes Go.WideShapes Go.ChangeAt Go.RowKit Go.Deep
section
variable {H:Type} {enc:TypeId × Value→H} {P:Program}
theorem bulk_sumQ {H:Type} {α:Type} (m:α→Nat) (D:Nat→DataW H):∀(l:List α) (s:Nat),(∀i (h:i<l.length),m l[i]≤Rows.uptoBulk (D (s+i)))→(l.map m).sum≤Rows.uptoBulkAll ((List.range' s l.length).map D)
 |[],_,_=>by simp
 |a::l,s,h=>by
  have h0:=h 0 (by simp);have ih:=bulk_sumQ m D l (s+1) (fun i hi=>by have:=h (i+1) (by simpa using hi);simp only[List.getElem_cons_succ] at this;rwa [show s+(i+1)=s+1+i by omega] at this);rw[List.map_cons,List.sum_cons,List.length_cons,List.range'_succ,List.map_cons];simp only[Rows.uptoBulkAll];simp only[List.getElem_cons_zero,Nat.add_zero] at h0;omega
theorem open_slmQ {α:Type} [Rep α] (m:α→Nat) {t e:TypeId} {W:World} {d:DataW H} {ps:List MemPlace} {a:Option Addr} {len cap:Nat} (ht:P.underlying t=some (.slice e)) (hC:P.cellsOf e=Rep.size α) (hel:∀fuel cs x,DataW.trod enc P W 0 (fun _=>true) true fuel e cs=some x→∃a:α,Rep.R W (fun b=>b<W.heap.size) cs a∧m a≤Rows.uptoBulk x.1) (hsz:0<Rep.size α) {fuel:Nat} (hf:DataW.trod enc P W 0 (fun _=>true) true fuel t [.slice a len cap]=some (d,ps)):
 ∃l:List α,l.length=len∧Sl W (fun b=>b<W.heap.size) a cap l∧l.length+1≤Rows.uptoBulk d∧(l.map m).sum≤Rows.uptoBulk d:=by
 rcases open_slice ht hf with⟨hcs,_⟩|⟨a',len',cap',m',n,D,Pl,hcs,_,hl,hm,hmm,hx,hi⟩
 ·simp at hcs;obtain⟨rfl,rfl,rfl⟩:=hcs;have:=bulk_one d;exact⟨[],rfl,Sl.nil _ _ _ _ (by simp[maxLen]),by simp;omega,by simp⟩
 ·simp at hcs;obtain⟨rfl,rfl,rfl⟩:=hcs;simp only[if_true] at hmm;subst hmm;rw[hC] at hi
  have hQ:∀i,i<len→∃x:α,m x≤Rows.uptoBulk (D i)∧∃es,Rep.R W (fun b=>b<W.heap.size) es x∧∀j u,es[j]? =some u→W.cell? (a'.add (i*Rep.size α+j))=some u:=by
   intro i hil;obtain⟨cs',hc,ht'⟩:=hi i (by omega);obtain⟨x,hr,hmx⟩:=hel _ _ _ ht';obtain⟨_,hlen,hat⟩:=World.cells?_some hc;refine⟨x,hmx,cs',hr,fun j u hu=>?_⟩;have hj:j<Rep.size α:=(by rw[←hlen];exact(List.getElem?_eq_some_iff.1 hu).1);rw[←Go.Deep.add_add];exact(hat j hj).trans hu
  obtain⟨l,hll,hq⟩:=exists_list len hQ;refine⟨l,hll,⟨by omega,hm,fun h0=>?_⟩,?_,?_⟩
  ·obtain⟨_,es,hr,hc⟩:=hq 0 h0;have hel0:=Rep.len hr;obtain⟨b,o,rfl⟩:=addr_plain (by simpa using hc 0 _ (List.getElem?_eq_getElem (by omega)));have hlt:=World.block_lt_of_cell? W _ (hc 0 _ (List.getElem?_eq_getElem (by omega)));rw[addr_add] at hlt;refine⟨b,o,rfl,hlt,hlt,fun i hil=>?_⟩;obtain⟨_,es,hr,hc⟩:=hq i hil;refine⟨es,hr,fun j u hu=>?_⟩;have:=hc j u hu;rwa [addr_add,←Nat.add_assoc] at this
  ·simp only[Prod.mk.injEq] at hx;rw[hx.1,hll];have:=bulk_slice ((List.range len).map D) ((List.range (m'-len)).map fun j=>D (len+j));simp only[List.length_map,List.length_range] at this;omega
  ·simp only[Prod.mk.injEq] at hx;rw[hx.1];have h1:=bulk_sumQ m D l 0 (fun i hi=>by rw[Nat.zero_add];exact(hq i hi).1);rw[hll,←List.range_eq_range'] at h1;simp only[Rows.uptoBulk];omega
theorem el_fieldsQ {W:World} {t:TypeId} {fs:Array Field} {fuel:Nat} {cs:List Value} {x:DataW H × List MemPlace} (he:P.underlying t=some (.struct fs)) (hone:oneCellFields P fs=true) (hC:P.cellsOf t=fs.size) (h:DataW.trod enc P W 0 (fun _=>true) true fuel t cs=some x):
 ∃(ys:List (DataW H × List MemPlace)) (n:Nat),x.1=.agg (ys.map (·.1))∧cs.length=fs.size∧ys.length=fs.size∧∀(i:Nat) (f:Field),fs[i]? =some f→∃u y,cs[i]? =some u∧ys[i]? =some y∧DataW.trod enc P W 0 (fun _=>true) true n f.type [u]=some y:=by
 obtain⟨ys,n,_,hx,hlen,hyl,hf⟩:=DataW.trod_struct he h;rw[hC] at hlen;refine⟨ys,n,by rw[hx],hlen,hyl,fun i f hi=>?_⟩;have hlt:i<fs.size:=(Array.getElem?_eq_some_iff.1 hi).1;obtain⟨ho,hk⟩:=hone_of hone i f hi;have h1:=hf i f hi;rw[ho,hk] at h1
 have hone':(cs.drop i).take 1=[cs[i]'(by omega)]:=by
  rw[List.drop_eq_getElem_cons (by omega)];rfl
 rw[hone'] at h1;exact⟨_,ys[i]'(by omega),List.getElem?_eq_getElem (by omega),List.getElem?_eq_getElem (by omega),by rw[h1,List.getElem?_eq_getElem (by omega)]⟩
end
variable {H:Type} {enc:TypeId × Value→H}
theorem el_nums {W:World} {fuel:Nat} {cs:List Value} {x:DataW H × List MemPlace} (h:DataW.trod enc Tryz.prog W 0 (fun _=>true) true fuel 22 cs=some x):∃l:List Int,Rep.R W (fun b=>b<W.heap.size) cs l:=by
 have hs:∃a len cap,cs=[.slice a len cap]:=by
  rcases open_slice Tryz.underlying22 h with⟨hc,_⟩|⟨a,len,cap,m,n,D,Pl,hc,_⟩
  ·exact⟨_,_,_,hc⟩
  ·exact⟨_,_,_,hc⟩
 obtain⟨a,len,cap,rfl⟩:=hs;obtain⟨d,ps⟩:=x;obtain⟨l,rfl,hsl,hb,_⟩:=open_slmQ (fun _:Int=>0) Tryz.underlying22 (by kernel_rfl) (fun _ _ _ h=>(by obtain⟨n,h1,_,h2⟩:=DataW.trod_int Tryz.underlying3 h;exact⟨n,⟨h1,i64_wf h2⟩,Nat.zero_le _⟩)) (by decide) h;exact⟨l,⟨a,cap,rfl,hsl,by have:=hsl.1;have:=hsl.2.1;unfold maxLen at this;omega⟩⟩
theorem el_act {W:World} {fuel:Nat} {cs:List Value} {x:DataW H × List MemPlace} (h:DataW.trod enc Tryz.prog W 0 (fun _=>true) true fuel 65 cs=some x):∃a:ActP,Rep.R W (fun b=>b<W.heap.size) cs a:=by
 obtain⟨ys,n,_,hlen,_,hf⟩:=el_fieldsQ Tryz.underlying65 (by kernel_rfl) (by kernel_rfl) h;obtain⟨u0,y0,c0,_,h0⟩:=hf 0 _ rfl;obtain⟨u1,y1,c1,_,h1⟩:=hf 1 _ rfl;obtain⟨u2,y2,c2,_,h2⟩:=hf 2 _ rfl;obtain⟨u3,y3,c3,_,h3⟩:=hf 3 _ rfl;obtain⟨n0,e0,_,z0⟩:=DataW.trod_int Tryz.underlying3 h0;obtain⟨n1,e1,_,z1⟩:=DataW.trod_int Tryz.underlying3 h1;obtain⟨n2,e2,_,z2⟩:=DataW.trod_int Tryz.underlying3 h2;obtain⟨l,hl⟩:=el_nums h3;refine⟨⟨n0,n1,n2,l⟩,u3,?_,i64_wf z0,i64_wf z1,i64_wf z2,hl⟩;have hlen4:cs.length=4:=hlen;match cs,hlen4,c0,c1,c2,c3 with
 |[a0,a1,a2,a3],_,c0,c1,c2,c3=>
  simp at c0 c1 c2 c3 e0 e1 e2;simp[c0,c1,c2,c3,e0,e1,e2]
set_option maxRecDepth 100000 in
theorem open_acts {W:World} {base:Nat} {v:Value} {d:DataW H} {ps:List MemPlace} (hval:Value.okWide Tryz.prog W .any base 61 v) (h:DataW.Trod enc Tryz.prog W 0 (fun _=>true) true 61 v d ps):
 ∃A c,∃l:List ActP,v=.slice A l.length c∧Sl W (fun b=>b<W.heap.size) A c l:=by
 obtain⟨A,c,l,hv,hs,_⟩:=open_sl (α:=ActP) Tryz.underlying61 (by kernel_rfl) (fun _ _ _ h=>el_act h) (by decide) hval h;exact⟨A,c,l,hv,hs⟩
end Go.Proofs.YtakaielemicpkaaGreatDoor
namespace Go.Proofs.YtakaielemicpkaaGreatDoor.rowBookChanges
open Go.ChangeShapes Go.WideShapes Go.ChangeAt Go.RowKit
set_option maxRecDepth 100000 in
theorem contract (H:Type) (enc:TypeId × Value→H) (W:World) (base:Nat) (args:Array Value) (ds gs:List (DataW H)) (before:List MemPlace) (hval:∀(j:Nat) t v,Tryz.f6.params[j]? =some t→args[j]? =some v→Value.okWide Tryz.prog W .any base t v) (hW:DataW.Whole enc Tryz.prog Tryz.f6.params.toList Rows.bookChangesSpec.vars false W args.toList ds gs before) (hL:laidMetH Tryz.prog laidL W):
 Calls Tryz.prog 6 args W fun e W'=>∃v,e=.returned v∧Rows.bookChangesSpec.post enc Tryz.prog Tryz.f6 false true false false W args v W':=by
 have hW':=hW;obtain⟨p,q,hA0,hV,rfl,hfz,hnd⟩:=hW;have hA:DataW.TrodAll enc Tryz.prog W 0 (fun _=>true) true Tryz.f6.params.toList args.toList ds p:=hA0;rw[Tryz.params6] at hA hval;obtain⟨v0,vs0,d0,ds0,p0,q0,hargs,rfl,rfl,h0,r0⟩:=trodAll_cons hA;obtain⟨v1,vs1,d1,ds1,p1,q1,rfl,rfl,rfl,h1,r1⟩:=trodAll_cons r0;obtain⟨rfl,rfl,rfl⟩:=trodAll_nil r1;obtain rfl:args=#[v0,v1]:=by cases args;simp_all
 obtain⟨rfl,rfl⟩:=trodVars_none hV;obtain⟨A0,c0,l0,rfl,hl0⟩:=open_ints_sl Tryz.underlying22 Tryz.underlying3 cells_int (hval 0 22 v0 rfl rfl) h0;obtain⟨A1,c1,l1,rfl,hl1⟩:=open_acts (hval 1 61 v1 rfl rfl) h1;refine(changes_any A0 c0 l0 A1 c1 l1 W hl0 hl1 (tabs_of hL)).mono fun e W' ⟨he,hb⟩=>?_
 subst he;exact⟨_,rfl,row_close laidOut Tryz.underlying4 (by kernel_rfl) (by kernel_rfl) rfl hW' rfl hb⟩
theorem laid_met (os:Os):laidMet Tryz.prog Rows.bookChangesRow.laid ((laidWorld os).forCall (fun _ _=>0) ⟨#[],#[.slice none 0 0,.slice none 0 0],[]⟩).memory:=
 laidMet_of_run' 8 (by kernel_rfl) (by kernel_rfl)
theorem reads (os:Os) {H:Type} (enc:TypeId × Value→H):∃places,DataW.whole enc Tryz.prog ((laidWorld os).forCall (fun _ _=>0) ⟨#[],#[.slice none 0 0,.slice none 0 0],[]⟩).memory Tryz.f6.params.toList Rows.bookChangesSpec.vars false (#[.slice none 0 0,.slice none 0 0]:Array Value).toList 8=some ([.nil,.nil],[],places):=
 ⟨[],by kernel_rfl⟩
set_option maxRecDepth 100000 in
theorem lifted (os:Os) (started:os.Started) (H:Type) (enc:TypeId × Value→H) (F:Stop.Interp):
 ReturnsInHanded {} Tryz.checked os 6 .any ((OpenSpec.ofChange Rows.bookChangesSpec).preRow enc Tryz.prog Tryz.f6 Rows.bookChangesRow.domain false Rows.bookChangesRow.laid) (((OpenSpec.ofChange Rows.bookChangesSpec).at F).post enc Tryz.prog Tryz.f6 false true false false):=by
 obtain⟨places,hx⟩:=reads os enc
 refine returnsInHanded_of_row (C:=Tryz.checked) (s:=(OpenSpec.ofChange Rows.bookChangesSpec)) own started (by kernel_rfl) Tryz.func6
  (witness_row_at (enc:=enc) (C:=Tryz.checked) false (laidWorld os) #[.slice none 0 0,.slice none 0 0] rfl (by kernel_rfl) (by kernel_rfl) (by kernel_rfl) (OpenSpec.preRow_of_cond 8 hx (by kernel_rfl) (fun k hk=>by cases hk) (by kernel_rfl) (laid_met os))) ?_
 intro W base args ds gs before hval hW _ _ _ hL _ _;exact contract H enc W base args ds gs before hval hW hL
theorem said:Rows.BookChangesSaid:=
 OpenClaim.holds_of_cond 6 Tryz.f6 rfl rfl rfl rfl rfl rfl rfl ⟨rfl,rfl,rfl,rfl,rfl⟩ rfl rfl rfl rfl rfl (by kernel_rfl) Tryz.func6 (by kernel_rfl) (of_decide_eq_true (by kernel_rfl)) (by unfold Func.isWrapper;first|(rw[if_pos (by decide +kernel)];kernel_rfl)|(rw[if_neg (by decide +kernel)];exact⟨rfl,rfl⟩)) (fun os started H enc _ F=>by rw[OpenClaim.pre_eq_preRow];exact lifted os started H enc F)
theorem wants:Tryz.f6.params.all (fun t=> !Tryz.prog.wantsStandIn t)=true:=by kernel_rfl
theorem plain (f:FuncId) (fn:Func) (hf:Tryz.pinned.checked.prog.funcNamed "rollbook/rollbooklaw28.BookChanges" =some f) (hfn:Tryz.pinned.checked.prog.funcs[f]? =some fn):
 false=Tryz.pinned.checked.prog.looks []∧∀(j:Nat) t,fn.params[j]? =some t→Tryz.pinned.checked.prog.wantsStandIn t=false:=by
 obtain rfl:f=6:=Option.some.inj ((show Tryz.prog.funcNamed "rollbook/rollbooklaw28.BookChanges" =some 6 by kernel_rfl).symm.trans hf) |>.symm;obtain rfl:fn=Tryz.f6:=(Option.some.inj (Tryz.func6.symm.trans hfn)).symm;refine⟨by kernel_rfl,fun j t ht=>?_⟩;have:=Array.all_eq_true_iff_forall_mem.1 wants t (Array.mem_of_getElem? ht);exact(by simpa using this:Tryz.prog.wantsStandIn t=false)
theorem card:Rows.BookChangesCardSaid:=
 Claim7.holds_tied_plain_at .later [] _ _ _ _ said (fun _ h=>by cases h) (by kernel_rfl) (fun _ h=>by cases h) bookChanges_row_tie rfl ⟨rfl,rfl⟩ (by kernel_rfl) rfl plain (by kernel_rfl)
#print axioms card
end Go.Proofs.YtakaielemicpkaaGreatDoor.rowBookChanges
