/- Texts of BookC10. -/
import Derived.Test.YtakaielemicpkaaGreatDoorBZg14
set_option maxHeartbeats 8000000
namespace Go.Proofs.YtakaielemicpkaaGreatDoor
open Go.RowKit
set_option maxRecDepth 100000 in
theorem chk_any {m h:Int}{l:List SectP}(A:Option Addr)(c:Nat)(w:World)(hT:Laid w)(hs:Sl w (fun b=>b<w.heap.size) A c l)(hsh:QaO l)(hI:I64 h)(hpn:(∀s∈l,s.vers.length=s.texts.length)→(Qac m h l).length≤1000000000):
 Calls Tryz.prog 24 #[.agg #[.int .i64 m,.int .i64 h,.slice A l.length c]] w fun e w'=>e=.returned (.int .i64 (QdC m h l))∧Below w.heap.size w w':=by
 obtain⟨n,hn⟩:∃n,l.length=n:=⟨_,rfl⟩;obtain⟨wb,hwb⟩:∃wb,w.alloc (.cells #[.int .i64 m,.int .i64 h,.slice A n c] 27)=wb:=⟨_,rfl⟩;have hba:Below w.heap.size w wb:=by rw[←hwb];exact bR.alloc nL _
 have hx0:ABox wb w.heap.size 27 [.int .i64 m,.int .i64 h,.slice A n c]:=by rw[←hwb];exact heap_alloc_new w _
 have hnc:n≤c:=by rw[←hn];exact hs.1
 have hn9:n≤1048576:=by rw[←hn];exact hsh.1
 have HS:=Lh (hs.to hba);have HTB:=Lh (hT.to hba);have HSH:=Lh hsh;have HI:=Lh hI;have HPN:=Lh hpn;have HN:=Lh hn;have HBA:=Lh hba;have HX0:=Lh hx0;have HW1:=Lh (Qa2 m 500 2000 wb);have HW2:=Lh (Qa2 h 4 100 wb);rw[hn];clear hs hT hn hba hx0 hsh hpn hI;go_enter Tryz.func24,Tryz.ntmps24;go_upto_region 1 with(fail);(try rw[hwb]);clear hwb;have x0:=HX0.out.cell 0 rfl;have x1:=HX0.out.cell 1 rfl;have x2:=HX0.out.cell 2 rfl;go_wp2_with fail;refine HW1.out.mono ?_;rintro e w1 ⟨rfl,rfl⟩;by_cases hm:500≤m∧m≤2000;case neg=>
  have HE:Hid (QdC m h l=5):=Lh (by unfold QdC;rw[if_pos hm]);rw[decide_eq_false hm];clear hm;go_wp2_with fail;go_ret;exact⟨by rw[HE.out];rfl,HBA.out⟩
 have HM:=Lh hm;rw[decide_eq_true hm];clear hm;go_wp2_with fail;refine HW2.out.mono ?_;rintro e w1 ⟨rfl,rfl⟩;by_cases hh:4≤h∧h≤100;case neg=>
  have HE:Hid (QdC m h l=5):=Lh (by unfold QdC;rw[if_neg (not_not_intro HM.out),if_pos hh]);rw[decide_eq_false hh];clear hh;go_wp2_with fail;go_ret;exact⟨by rw[HE.out];rfl,HBA.out⟩
 have HHH:=Lh hh;rw[decide_eq_true hh];clear hh;go_wp2_with fail;clear x0 x1 x2;go_loopw [3,20] (fun o i wr=>∃(k:Nat) (ob:Bool),k≤n∧i=.int .i64 k∧o=.bool ob∧Hid (QcL l k=ob)∧Hid (UptoS m h l k)∧Below wb.heap.size wb wr) (fun _ i _=>n-(intOf i).toNat);(case atStart=>exact⟨0,false,by omega,rfl,rfl,Lh rfl,Lh (fun j _ hj=>absurd hj (Nat.not_lt_zero _)),Below.refl _ _⟩);case round=>
  obtain⟨k,ob,hk,rfl,rfl,HOB,HU,hbl⟩:=hrel;by_cases hlt:k<n
  ·have hkl:k<l.length:=by rw[HN.out];exact hlt
   obtain⟨b,o,Ag,cg,An,cn,rfl,-,hbb,e0,e1,e2,e3,hg1,hn1,-⟩:=Qbv (HS.out.to hbl) hkl;have HH:Hid (Qdz m h l k l[k]≠0→QdC m h l=Qdz m h l k l[k]):=Lh (fun h0=>HU.out.hit hkl h0 HM.out HHH.out);have HNx:Hid (Qdz m h l k l[k]=0→UptoS m h l (k+1)):=Lh (fun h0=>HU.out.next hkl h0);have HON:Hid (QcL l (k+1)=(QcL l k|| !l[k].frozen)):=Lh (openB_next l hkl);have hshx:=HSH.out.2 _ (List.getElem_mem hkl);obtain⟨x,hx⟩:∃x,l[k]=x:=⟨_,rfl⟩;rw[hx] at e0 e1 e2 e3 hg1 hn1 HH HNx HON hshx;obtain⟨nv,hnv⟩:∃nv,x.vers.length=nv:=⟨_,rfl⟩;obtain⟨nt,hnt⟩:∃nt,x.texts.length=nt:=⟨_,rfl⟩;obtain⟨fr,hfr⟩:∃fr,x.frozen=fr:=⟨_,rfl⟩;rw[hnv] at e2;rw[hnt] at e3;rw[hfr] at e1;have hv9:nv≤1048576:=(by rw[←hnv];exact hshx.1);have ht9:nt≤1048576:=(by rw[←hnt];exact hshx.2.1);have HSX:=Lh hshx;have HNV:=Lh hnv;have HNT:=Lh hnt;have HFR:=Lh hfr;obtain⟨X,hX⟩:∃X,wr.heap.size=X:=⟨_,rfl⟩;obtain⟨w2,hw2⟩:∃w2,wr.alloc (.cells #[.int .i64 x.entry,.bool fr,.slice Ag nv cg,.slice An nt cn] 45)=w2:=⟨_,rfl⟩;have hb2:Below wr.heap.size wr w2:=(by rw[←hw2];exact bR.alloc nL _);have hxx:ABox w2 X 45 [.int .i64 x.entry,.bool fr,.slice Ag nv cg,.slice An nt cn]:=(by rw[←hw2,←hX];exact heap_alloc_new wr _);have HB2:=Lh (hbl.trans (hb2.mono hbl.size));have HBE2:=Lh (HBA.out.trans (HB2.out.mono HBA.out.size));have HX2:=Lh (HX0.out.to HB2.out);have HXX:=Lh hxx;have HV2:=Lh (hg1.to hb2);have HT2:=Lh (hn1.to hb2);have hkI:(k:Int)<(n:Int):=(by omega);have hwi:=Qa2 x.entry 0 65535 w2;have hfd:=QbX (some ⟨b,o,none⟩) c l m h x.entry w2 (HS.out.to HB2.out) (by rw[HN.out];omega);rw[HN.out] at hfd;have HFD:=Lh hfd;clear hx hnv hnt hfr hg1 hn1 hkl hfd hshx HU;by_cases hr:0≤x.entry∧x.entry≤65535;case neg=>
    have HE:Hid (QdC m h l=5):=Lh (by
     have e:Qdz m h l k x=5:=(by unfold Qdz;rw[if_pos hr])
     rw[HH.out (by rw[e];decide),e])
    rw[decide_eq_false hr] at hwi;have HWI:=Lh hwi;clear hwi hr;go_upto_region 7 with(fail);(try rw[hX]);(try rw[hw2]);clear hX hw2 hb2 hxx hbl e0 e1 e2 e3;have p0:=HXX.out.cell 0 rfl;go_wp2_with fail;refine HWI.out.mono ?_;rintro e w3 ⟨rfl,rfl⟩;go_wp2_with fail;go_ret;exact⟨by rw[HE.out];rfl,HBE2.out⟩
   rw[decide_eq_true hr] at hwi;have HWI:=Lh hwi;have HR:=Lh hr;clear hwi hr;go_upto_region 7 with(fail);(try rw[hX]);(try rw[hw2]);clear hX hw2 hb2 hxx hbl e0 e1 e2 e3;have p0:=HXX.out.cell 0 rfl;go_wp2_with fail;refine HWI.out.mono ?_;rintro e w3 ⟨rfl,rfl⟩;have x0:=HX2.out.cell 0 rfl;have x1:=HX2.out.cell 1 rfl;have x2:=HX2.out.cell 2 rfl;go_wp2_with fail;refine HFD.out.mono ?_;rintro e w3 ⟨rfl,hb3⟩;have HB3:=Lh (HB2.out.trans (hb3.mono HB2.out.size));have HBE3:=Lh (HBA.out.trans (HB3.out.mono HBA.out.size));have HXX3:=Lh (HXX.out.to hb3);have HX3:=Lh (HX2.out.to hb3);have HV3:=Lh (HV2.out.to hb3);have HT3:=Lh (HT2.out.to hb3);clear hb3 p0 x0 x1 x2;have p0:=HXX3.out.cell 0 rfl;have p1:=HXX3.out.cell 1 rfl;have p2:=HXX3.out.cell 2 rfl;have p3:=HXX3.out.cell 3 rfl;have x0:=HX3.out.cell 0 rfl;have x1:=HX3.out.cell 1 rfl;have x2:=HX3.out.cell 2 rfl;obtain⟨F,hF⟩:∃F,QaC l x.entry=F:=⟨_,rfl⟩;by_cases hd:F<(k:Int);case pos=>
    have HE:Hid (QdC m h l=4):=Lh (by
     have e:Qdz m h l k x=4:=(by unfold Qdz;rw[if_neg (not_not_intro HR.out),if_pos (by rw[hF];exact hd)])
     rw[HH.out (by rw[e];decide),e])
    rw[hF];clear hF;go_wp2_with fail;go_ret;exact⟨by rw[HE.out];rfl,HBE3.out⟩
   have HD:Hid (¬QaC l x.entry<(k:Int)):=Lh (by rw[hF];exact hd);rw[hF];clear hF;by_cases ho:fr=true∧ob=true
   ·have HE:Hid (QdC m h l=12):=Lh (by
     have e:Qdz m h l k x=12:=(by unfold Qdz;rw[if_neg (not_not_intro HR.out),if_neg HD.out,if_pos ⟨HFR.out.trans ho.1,HOB.out.trans ho.2⟩])
     rw[HH.out (by rw[e];decide),e])
    obtain⟨rfl,rfl⟩:=ho;go_wp2_with fail;go_ret;exact⟨by rw[HE.out];rfl,HBE3.out⟩
   have HO:Hid (¬(x.frozen=true∧QcL l k=true)):=Lh (by rw[HFR.out,HOB.out];exact ho);by_cases ha:nv=0∨nv≠nt∨(1<nv∧fr=false)
   ·have HE:Hid (QdC m h l=1):=Lh (by
     have e:Qdz m h l k x=1:=by
      unfold Qdz
      rw[if_neg (not_not_intro HR.out),if_neg HD.out,if_neg HO.out,HNV.out,HNT.out,HFR.out,if_pos ha]
     rw[HH.out (by rw[e];decide),e])
    have hcs:((fr=true∧ob=false)∨(fr=false∧ob=false)∨(fr=false∧ob=true)):=by
     cases fr<;>cases ob<;>simp_all
    clear HO ho HH HNx HON;by_cases h0:nv=0
    ·subst h0;have HCS:=Lh hcs;clear ha hcs;rcases HCS.out with⟨rfl,rfl⟩|⟨rfl,rfl⟩|⟨rfl,rfl⟩;all_goals
      clear HCS;go_wp2_with fail;go_ret;exact⟨by rw[HE.out];rfl,HBE3.out⟩
    have hI0:¬(nv:Int)=0:=(by omega);by_cases h1:nv≠nt
    ·have hI1:¬(nv:Int)=(nt:Int):=by omega
     have HCS:=Lh hcs;clear ha hcs h1 h0;rcases HCS.out with⟨rfl,rfl⟩|⟨rfl,rfl⟩|⟨rfl,rfl⟩;all_goals
      clear HCS;go_wp2_with fail;go_ret;exact⟨by rw[HE.out];rfl,HBE3.out⟩
    obtain rfl:nv=nt:=Decidable.not_not.1 h1;have h2:1<nv∧fr=false:=by
     rcases ha with h|h|h
     ·exact absurd h h0
     ·exact absurd rfl h
     ·exact h
    obtain⟨h3,rfl⟩:=h2;have hI1:(1:Int)<(nv:Int):=(by omega);clear ha hcs h1 h0;cases ob;all_goals
     go_wp2_with fail;go_ret;exact⟨by rw[HE.out];rfl,HBE3.out⟩
   have h0:nv≠0:=fun e=>ha (.inl e)
   have h1:nv=nt:=Decidable.not_not.1 fun e=>ha (.inr (.inl e))
   subst h1;have h2:¬(1<nv∧fr=false):=fun e=>ha (.inr (.inr e))
   have HA:Hid (¬(x.vers.length=0∨x.vers.length≠x.texts.length∨(1<x.vers.length∧x.frozen=false))):=Lh (by rw[HNV.out,HNT.out,HFR.out];exact ha);have hI0:¬(nv:Int)=0:=(by omega);clear ha;by_cases h100:100<nv
   ·have HE:Hid (QdC m h l=2):=Lh (by
     have e:Qdz m h l k x=2:=by
      unfold Qdz
      rw[if_neg (not_not_intro HR.out),if_neg HD.out,if_neg HO.out,if_neg HA.out,if_pos (by rw[HNV.out];exact h100)]
     rw[HH.out (by rw[e];decide),e])
    obtain⟨rfl,rfl⟩:fr=true∧ob=false:=by cases fr<;>cases ob<;>simp_all<;>omega
    have hI1:(1:Int)<(nv:Int):=(by omega);have hI100:(100:Int)<(nv:Int):=(by omega);clear HO ho HH HNx HON h2;go_wp2_with fail;go_ret;exact⟨by rw[HE.out];rfl,HBE3.out⟩
   have hI100:¬(100:Int)<(nv:Int):=by omega
   have HSV:Hid (Qdz m h l k x=Qc5 m h x):=Lh (by
    unfold Qdz
    rw[if_neg (not_not_intro HR.out),if_neg HD.out,if_neg HO.out,if_neg HA.out,if_neg (by rw[HNV.out];exact h100)])
   have hcv:=versE_any (m:=m) HI.out (some ⟨b,o,none⟩) n c x Ag An cg cn nv w3 (HTB.out.to HB3.out) HV3.out HT3.out HNV.out HNT.out HSX.out;obtain⟨E,hE⟩:∃E,Qc5 m h x=E:=⟨_,rfl⟩;rw[HFR.out,hE] at hcv;rw[hE] at HSV;have HCV:=Lh hcv;have hcases:(fr=true∧ob=false∧1<nv)∨(fr=true∧ob=false∧nv=1)∨(fr=false∧ob=false∧nv=1)∨(fr=false∧ob=true∧nv=1):=by
    cases fr<;>cases ob<;>simp_all<;>omega
   have HCS:=Lh hcases;clear hE hcv hcases ho h2 h0 h100;rcases HCS.out with⟨rfl,rfl,h1⟩|⟨rfl,rfl,h1⟩|⟨rfl,rfl,h1⟩|⟨rfl,rfl,h1⟩
   ·have hI1:(1:Int)<(nv:Int):=by omega
    clear HCS;have HON2:Hid (QcL l (k+1)=false):=Lh (by rw[HON.out,HOB.out,HFR.out];rfl);clear HON h1;go_wp2_with fail;refine HCV.out.mono ?_;rintro e w4 ⟨rfl,hb4⟩;have HB4:=Lh (HB3.out.trans (hb4.mono HB3.out.size));have HBE4:=Lh (HBA.out.trans (HB4.out.mono HBA.out.size));have p1:=(HXX3.out.to hb4).cell 1 rfl;clear hb4 x0 x1 x2;by_cases hE0:E=0
    ·subst hE0;have HU2:=Lh (HNx.out HSV.out);clear HH HNx;go_wp2_with fail;go_roundw;(case rel=>exact⟨k+1,_,by omega,by go_num,rfl,HON2,HU2,HB4.out⟩);case measure=>simp[intOf];omega
    ·have HE:Hid (QdC m h l=E):=Lh (by rw[HH.out (by rw[HSV.out];exact hE0),HSV.out]);have hEb:(E != 0)=true:=(by simpa using hE0);clear HH HNx;go_wp2_with fail;go_ret;exact⟨by rw[HE.out];rfl,HBE4.out⟩
   ·have hI1:¬(1:Int)<(nv:Int):=by omega
    clear HCS;have HON2:Hid (QcL l (k+1)=false):=Lh (by rw[HON.out,HOB.out,HFR.out];rfl);clear HON h1;go_wp2_with fail;refine HCV.out.mono ?_;rintro e w4 ⟨rfl,hb4⟩;have HB4:=Lh (HB3.out.trans (hb4.mono HB3.out.size));have HBE4:=Lh (HBA.out.trans (HB4.out.mono HBA.out.size));have p1:=(HXX3.out.to hb4).cell 1 rfl;clear hb4 x0 x1 x2;by_cases hE0:E=0
    ·subst hE0;have HU2:=Lh (HNx.out HSV.out);clear HH HNx;go_wp2_with fail;go_roundw;(case rel=>exact⟨k+1,_,by omega,by go_num,rfl,HON2,HU2,HB4.out⟩);case measure=>simp[intOf];omega
    ·have HE:Hid (QdC m h l=E):=Lh (by rw[HH.out (by rw[HSV.out];exact hE0),HSV.out]);have hEb:(E != 0)=true:=(by simpa using hE0);clear HH HNx;go_wp2_with fail;go_ret;exact⟨by rw[HE.out];rfl,HBE4.out⟩
   ·have hI1:¬(1:Int)<(nv:Int):=by omega
    clear HCS;have HON2:Hid (QcL l (k+1)=true):=Lh (by rw[HON.out,HOB.out,HFR.out];rfl);clear HON h1;go_wp2_with fail;refine HCV.out.mono ?_;rintro e w4 ⟨rfl,hb4⟩;have HB4:=Lh (HB3.out.trans (hb4.mono HB3.out.size));have HBE4:=Lh (HBA.out.trans (HB4.out.mono HBA.out.size));have p1:=(HXX3.out.to hb4).cell 1 rfl;clear hb4 x0 x1 x2;by_cases hE0:E=0
    ·subst hE0;have HU2:=Lh (HNx.out HSV.out);clear HH HNx;go_wp2_with fail;go_roundw;(case rel=>exact⟨k+1,_,by omega,by go_num,rfl,HON2,HU2,HB4.out⟩);case measure=>simp[intOf];omega
    ·have HE:Hid (QdC m h l=E):=Lh (by rw[HH.out (by rw[HSV.out];exact hE0),HSV.out]);have hEb:(E != 0)=true:=(by simpa using hE0);clear HH HNx;go_wp2_with fail;go_ret;exact⟨by rw[HE.out];rfl,HBE4.out⟩
   ·have hI1:¬(1:Int)<(nv:Int):=by omega
    clear HCS;have HON2:Hid (QcL l (k+1)=true):=Lh (by rw[HON.out,HOB.out,HFR.out];rfl);clear HON h1;go_wp2_with fail;refine HCV.out.mono ?_;rintro e w4 ⟨rfl,hb4⟩;have HB4:=Lh (HB3.out.trans (hb4.mono HB3.out.size));have HBE4:=Lh (HBA.out.trans (HB4.out.mono HBA.out.size));have p1:=(HXX3.out.to hb4).cell 1 rfl;clear hb4 x0 x1 x2;by_cases hE0:E=0
    ·subst hE0;have HU2:=Lh (HNx.out HSV.out);clear HH HNx;go_wp2_with fail;go_roundw;(case rel=>exact⟨k+1,_,by omega,by go_num,rfl,HON2,HU2,HB4.out⟩);case measure=>simp[intOf];omega
    ·have HE:Hid (QdC m h l=E):=Lh (by rw[HH.out (by rw[HSV.out];exact hE0),HSV.out]);have hEb:(E != 0)=true:=(by simpa using hE0);clear HH HNx;go_wp2_with fail;go_ret;exact⟨by rw[HE.out];rfl,HBE4.out⟩
  ·obtain rfl:k=n:=by omega
   have HUA:Hid (UptoS m h l l.length):=Lh (by rw[HN.out];exact HU.out)
   have HEQ:Hid (∀s∈l,s.vers.length=s.texts.length):=Lh (fun s hs=>by
    obtain⟨i,hi,rfl⟩:=List.getElem_of_mem hs
    exact(secX_ok (HUA.out i hi hi)).nt)
   have hpl:=HPN.out HEQ.out;have hp:=Qcs (⟨HTB.out.to hbl,HS.out.to hbl,HSH.out,fun s hs=>by rw[HEQ.out s hs];exact Nat.le_refl _,HI.out,hpl⟩:BookOk wr m h A c l);rw[HN.out] at hp;have HP:=Lh hp;have HBL:=Lh hbl;have x0:=(HX0.out.to hbl).cell 0 rfl;have x1:=(HX0.out.to hbl).cell 1 rfl;have x2:=(HX0.out.to hbl).cell 2 rfl;have HPL:=Lh hpl;clear hp hbl hpl;go_wp2_with fail;refine HP.out.mono ?_;rintro e W3 ⟨v,R,rfl,ho,-,hb⟩;obtain⟨Ap,cp,rfl,-⟩:=ho.plain.sl;have HCE:=Lh (HUA.out.all HM.out HHH.out);obtain⟨P,hP⟩:∃P,(Qac m h l).length=P:=⟨_,rfl⟩;have HBE:=Lh (HBA.out.trans ((HBL.out.trans (hb.mono HBL.out.size)).mono HBA.out.size));rw[hP] at HCE HPL;rw[hP];have hP9:P≤1000000000:=HPL.out;clear hP ho hb x0 x1 x2;by_cases h16:16384<P
   ·have HE:Hid (QdC m h l=2):=Lh (by rw[HCE.out,if_pos h16]);have hPI:(16384:Int)<(P:Int):=(by omega);go_wp2_with fail;go_ret;exact⟨by rw[HE.out];rfl,HBE.out⟩
   ·have HE:Hid (QdC m h l=0):=Lh (by rw[HCE.out,if_neg h16]);have hPI:¬(16384:Int)<(P:Int):=(by omega);go_wp2_with fail;go_ret;exact⟨by rw[HE.out];rfl,HBE.out⟩
theorem GBk.pre {m h:Int}{l:List SectP}(H:GBk m h l):∀s∈l,PreX s:=fun s hs=>by
 obtain⟨f,hf⟩:=H.chk;obtain⟨i,hi,rfl⟩:=List.getElem_of_mem hs;have hc:=hf i hi;exact⟨hc.n1,by have:=hc.n3;omega,hc.nt,fun t ht=>(hc.g t ht).short⟩
structure ActP where
 kind:Int
 entry:Int
 version:Int
 text:List Int
instance:Rep ActP where
 size:=4
 R w S cs x:=∃v,cs=[.int .i64 x.kind,.int .i64 x.entry,.int .i64 x.version,v]∧I64 x.kind∧I64 x.entry∧I64 x.version∧Rep.R w S [v] x.text
 len:=by rintro w S cs s ⟨v,rfl,_⟩;rfl
 one:=by
  rintro w S cs s ⟨v,rfl,_,_,_,ha⟩ u hu;have h1:=Rep.one ha v (by simp);simp at hu;rcases hu with rfl|rfl|rfl|rfl
  ·rfl
  ·rfl
  ·rfl
  ·exact h1
 keep:=by rintro w w' S cs s ⟨v,rfl,h1,h2,h3,ha⟩ hk;exact⟨v,rfl,h1,h2,h3,Rep.keep ha hk⟩
 mono:=by rintro w S S' cs s ⟨v,rfl,h1,h2,h3,ha⟩ hk;exact⟨v,rfl,h1,h2,h3,Rep.mono ha hk⟩
theorem act_at {w:World}{S:Nat→Prop}{A:Option Addr}{c:Nat}{l:List ActP}(h:Sl w S A c l){k:Nat}(hk:k<l.length):
 ∃b o At ct,A=some ⟨b,o,none⟩∧S b∧b<w.heap.size∧w.cell? ⟨b,o+k*4,none⟩=some (.int .i64 l[k].kind)∧w.cell? ⟨b,o+k*4+1,none⟩=some (.int .i64 l[k].entry)∧ w.cell? ⟨b,o+k*4+2,none⟩=some (.int .i64 l[k].version)∧w.cell? ⟨b,o+k*4+3,none⟩=some (.slice At l[k].text.length ct)∧Sl w S At ct l[k].text∧I64 l[k].kind∧I64 l[k].entry∧I64 l[k].version:=by
 obtain⟨b,o,es,rfl,hb,hlt,⟨va,rfl,h1,h2,h3,⟨Ag,cg,e1,hg,_⟩⟩,hc⟩:=h.at_ hk;cases e1;exact⟨b,o,Ag,cg,rfl,hb,hlt,hc 0 _ rfl,hc 1 _ rfl,hc 2 _ rfl,hc 3 _ rfl,hg,h1,h2,h3⟩
theorem wpAnyD_three {P:Program}{ops:Array Oper}{Q:Exit→Act→World→Prop}{md:Region.Mode}{S:World→Prop}{hd:Nat→Bool}{i j k:Nat}{oi oj ok:Oper}{fuel:Nat}{listed:Array Bool}{a:Act}{w:World}(hr:Region.ready md ops listed=[i,j,k])(hi:ops[i]? =some oi)(hj:ops[j]? =some oj)(hk:ops[k]? =some ok)(hwi:Region.wanted oi (yielded ops a.tmps)=true)(hwj:Region.wanted oj (yielded ops a.tmps)=true)(hwk:Region.wanted ok (yielded ops a.tmps)=true) (h1:∀K:Act→World→Prop,(∀a' w',(hd i=true→S w')→wpAnyD P md ops Q S hd fuel (listed.setIfInBounds i true) a' w'→K a' w')→oi.wp P a w K Q) (h2:∀K:Act→World→Prop,(∀a' w',(hd j=true→S w')→wpAnyD P md ops Q S hd fuel (listed.setIfInBounds j true) a' w'→K a' w')→oj.wp P a w K Q) (h3:∀K:Act→World→Prop,(∀a' w',(hd k=true→S w')→wpAnyD P md ops Q S hd fuel (listed.setIfInBounds k true) a' w'→K a' w')→ok.wp P a w K Q):wpAnyD P md ops Q S hd (fuel+1) listed a w:=by
 refine⟨fun h0=>(by rw[hr] at h0;cases h0),fun q hq=>?_⟩;rw[hr] at hq;rcases List.mem_cons.1 hq with rfl|hq
 ·unfold wpOp;simp only[hi,hwi,if_true];exact .inl (h1 _ fun a' w' hs hn=>⟨hs,hn⟩)
 rcases List.mem_cons.1 hq with rfl|hq
 ·unfold wpOp;simp only[hj,hwj,if_true];exact .inl (h2 _ fun a' w' hs hn=>⟨hs,hn⟩)
 ·rw[List.mem_singleton] at hq;subst hq;unfold wpOp;simp only[hk,hwk,if_true];exact .inl (h3 _ fun a' w' hs hn=>⟨hs,hn⟩)
theorem GBk.st {m h:Int}{l:List SectP}(H:GBk m h l):StB 0 m h l:=by
 refine⟨chkE_good H.noerr,H.n,fun s hs=>?_,fun s hs=>?_⟩
 ·obtain⟨f,hf⟩:=H.chk;obtain⟨i,hi,rfl⟩:=List.getElem_of_mem hs;have hc:=hf i hi;have:=hc.n3;omega
 ·exact(H.pre s hs).2.2.2
def QbE (n s:Int)(ps:List PageP):Option PageP:=ps.find? (fun p=>decide (p.num=n∧p.suf=s))
theorem pageAt_hit {n s:Int}{ps:List PageP}{k:Nat}(hk:k<ps.length)(h:ps[k].num=n∧ps[k].suf=s)(hn:∀i (hi:i<ps.length),i<k→¬(ps[i].num=n∧ps[i].suf=s)):QbE n s ps=some ps[k]:=by
 unfold QbE;rw[List.find?_eq_some_iff_getElem];exact⟨decide_eq_true h,k,hk,rfl,fun j hj=>by rw[decide_eq_false (hn j (by omega) hj)];rfl⟩
def PgP (B:Nat)(o:Option PageP)(e:Ending)(W':World):Prop:=∃Aa ca Ab cb,e=.returned (.tuple #[.agg #[.int .i64 (o.getD ⟨0,0,0,0,[],[]⟩).num,.int .i64 (o.getD ⟨0,0,0,0,[],[]⟩).suf,.int .i64 (o.getD ⟨0,0,0,0,[],[]⟩).entry,.int .i64 (o.getD ⟨0,0,0,0,[],[]⟩).ver,.slice Aa (o.getD ⟨0,0,0,0,[],[]⟩).body.length ca,.slice Ab (o.getD ⟨0,0,0,0,[],[]⟩).notes.length cb],.bool o.isSome])∧Sl W' (Up B) Aa ca (o.getD ⟨0,0,0,0,[],[]⟩).body∧Sl W' (Up B) Ab cb (o.getD ⟨0,0,0,0,[],[]⟩).notes
theorem PgP.no {B:Nat}{o:Option PageP}(W':World)(h:o=none):PgP B o (.returned (.tuple #[.agg #[.int .i64 0,.int .i64 0,.int .i64 0,.int .i64 0,.slice none 0 0,.slice none 0 0],.bool false])) W':=by
 subst h;exact⟨none,0,none,0,rfl,Sl.nil _ _ _ _ (Nat.zero_le _),Sl.nil _ _ _ _ (Nat.zero_le _)⟩
theorem PgP.yes {B:Nat}{o:Option PageP}{p:PageP}{W':World}{A1 A2:Option Addr}{c1 c2:Nat}(h:o=some p)(h1:Sl W' (Up B) A1 c1 p.body)(h2:Sl W' (Up B) A2 c2 p.notes):PgP B o (.returned (.tuple #[.agg #[.int .i64 p.num,.int .i64 p.suf,.int .i64 p.entry,.int .i64 p.ver,.slice A1 p.body.length c1,.slice A2 p.notes.length c2],.bool true])) W':=by
 subst h;exact⟨A1,c1,A2,c2,rfl,h1,h2⟩
theorem below6 {n b:Nat}{w w':World}(h:Below n w w')(hb:n≤b)(u0 u1 u2 u3 u4 u5:Value):Below n w ((((((w'.setCell ⟨b,0,none⟩ (u0)).setCell ⟨b,1,none⟩ (u1)).setCell ⟨b,2,none⟩ (u2)).setCell ⟨b,3,none⟩ (u3)).setCell ⟨b,4,none⟩ (u4)).setCell ⟨b,5,none⟩ (u5)):=(((((h.setCell (p:=⟨b,0,none⟩) hb u0).setCell (p:=⟨b,1,none⟩) hb u1).setCell (p:=⟨b,2,none⟩) hb u2).setCell (p:=⟨b,3,none⟩) hb u3).setCell (p:=⟨b,4,none⟩) hb u4).setCell (p:=⟨b,5,none⟩) hb u5
theorem heap6 (w:World)(b:Nat)(u0 u1 u2 u3 u4 u5:Value){i:Nat}(hi:i≠b):((((((w.setCell ⟨b,0,none⟩ (u0)).setCell ⟨b,1,none⟩ (u1)).setCell ⟨b,2,none⟩ (u2)).setCell ⟨b,3,none⟩ (u3)).setCell ⟨b,4,none⟩ (u4)).setCell ⟨b,5,none⟩ (u5)).heap[i]? =w.heap[i]? :=by
 rw[Qaa _ _ _ _ hi,Qaa _ _ _ _ hi,Qaa _ _ _ _ hi,Qaa _ _ _ _ hi,Qaa _ _ _ _ hi,Qaa _ _ _ _ hi]
def IsC (w:World)(b:Nat):Prop:=∃cs t fr,w.heap[b]? =some (.cells cs t fr)
theorem IsC.of_cell {w:World}{p:Addr}{u:Value}(h:w.cell? p=some u):IsC w p.block:=by
 unfold World.cell? at h;cases hb:w.heap[p.block]? with
 |none=>rw[hb] at h;simp at h
 |some o=>
  rw[hb] at h;cases o with
  |cells cs t fr=>exact⟨cs,t,fr,hb⟩
  |_=>simp at h
theorem Sl.isC {α:Type}[Rep α]{w:World}{S:Nat→Prop}{A:Option Addr}{c:Nat}{l:List α}(h:Sl w S A c l)(hz:0<Rep.size α)(hr:∀es (x:α),Rep.R w S es x→Rep.R w (fun i=>IsC w i∧S i) es x):Sl w (fun i=>IsC w i∧S i) A c l:=by
 refine⟨h.1,h.2.1,fun hn=>?_⟩;obtain⟨b,o,e,hb,hlt,hx⟩:=h.2.2 hn;refine⟨b,o,e,⟨?_,hb⟩,hlt,fun i hi=>?_⟩
 ·obtain⟨es,hes,hc⟩:=hx 0 hn;have hl:=Rep.len hes;have:=hc 0 _ (qG (by omega));exact IsC.of_cell this
 ·obtain⟨es,hes,hc⟩:=hx i hi;exact⟨es,hr es _ hes,hc⟩
theorem repI_isC {w:World}{S:Nat→Prop}{es:List Value}{l:List Int}(h:Rep.R w S es l):Rep.R w (fun i=>IsC w i∧S i) es l:=by
 obtain⟨A,c,e,hs,hl⟩:=h;exact⟨A,c,e,hs.isC (show 0<1 by decide) (fun es x hx=>hx),hl⟩
theorem repL_isC {w:World}{S:Nat→Prop}{es:List Value}{l:List LineP}(h:Rep.R w S es l):Rep.R w (fun i=>IsC w i∧S i) es l:=by
 obtain⟨A,c,e,hs,hl⟩:=h;refine⟨A,c,e,hs.isC (show 0<4 by decide) (fun es x hx=>?_),hl⟩;obtain⟨va,vb,h1,h2,h3⟩:=hx;exact⟨va,vb,h1,repI_isC h2,repI_isC h3⟩
theorem QdP {X Y:World}{S:Nat→Prop}{row:Option Nat}{es:List Value}{l:List LineP}(h:Rep.R X (fun i=>IsC X i∧S i) es l)(hg:X.grownBy Y row)(hr:∀i,IsC X i→some i≠row):Rep.R Y (fun i=>IsC Y i∧S i) es l:=
 Rep.mono (repL_isC (Rep.keep h (Kept.grown hg (fun i hi=>hr i hi.1)))) (fun i hi _=>⟨hi.1,hi.2.2⟩)
theorem okPages_some {a b:List (List Word)}{m h:Int}(hw:Qau m h a b=0):Qak a b m h≠[]:=by
 unfold Qau at hw;by_cases hE:textE a b m h=0
 ·rw[if_neg (by simpa using hE)] at hw;obtain⟨hf,⟨h1,h2⟩,hp⟩:=Qbs hE;unfold Qak;rw[if_pos hE];unfold Qa0;have hb:Qba a m≠[]:=by
   cases a with
   |nil=>
    have hn:b=[]:=by
     unfold QaH at hp;have e0:Qba [] m=[]:=rfl;rw[e0] at hp;split at hp
     ·cases hp
     ·split at hp
      ·cases hp
      ·simp only[List.flatMap_nil,Qa3] at hp;split at hp
       ·cases hp
       ·rename_i h9;have h8:(Qat [] b m).length=b.length:=(by unfold Qat;rw[Qa1]);exact List.eq_nil_of_length_eq_zero (by omega)
    subst hn;exfalso;rw[if_pos (by rfl)] at hw;cases hw
   |cons p ps=>
    have hr:=hf.reg h1 h2 (p:=p) (by simp);have:=setP_ne (ws:=p) 0 hr (hf.p p (by simp)).1;unfold Qba;rw[Qav,List.flatten_cons];intro e;exact this (List.append_eq_nil_iff.1 e).1
  have ha:1≤Qal (Qba a m) (Qat a b m):=by
   cases hB:Qba a m with
   |nil=>exact absurd hB hb
   |cons x xs=>rw[Qal,List.map_cons,List.sum_cons];omega
  obtain⟨f,hf2⟩:∃f,Qal (Qba a m) (Qat a b m)=f+1:=⟨Qal (Qba a m) (Qat a b m)-1,by omega⟩;rw[hf2,setPages,if_neg (fun e=>hb e.1)];simp
 ·rw[if_pos hE] at hw;exact absurd hw hE
def LtL (p q:PageP):Prop:=p.num<q.num∨(p.num=q.num∧p.suf<q.suf)
theorem lab_k (e v num:Int)(k:Nat):∀(ps:List PageP) (suf:Int),(∀p∈QaR e v num suf (k+1) ps,p.num=num∧suf<p.suf∧p.suf≤suf+ps.length)∧(QaR e v num suf (k+1) ps).Pairwise LtL
 |[],suf=>by simp[QaR]
 |p::ps,suf=>by
  obtain⟨h1,h2⟩:=lab_k e v num k ps (suf+1);rw[Qbx,if_neg (by omega),if_neg (by omega)];refine⟨fun q hq=>?_,List.pairwise_cons.2 ⟨fun q hq=>?_,h2⟩⟩
  ·rcases List.mem_cons.1 hq with rfl|hq
   ·exact⟨rfl,by show suf<suf+1;omega,by show suf+1≤_;rw[qC];omega⟩
   ·have:=h1 q hq;rw[qC];omega
  ·have:=h1 q hq;exact .inr ⟨this.1.symm,by show suf+1<q.suf;omega⟩
theorem lab_0 (e v suf:Int):∀(ps:List PageP) (num:Int),(∀p∈QaR e v num suf 0 ps,num<p.num∧p.num≤num+ps.length∧p.suf=suf)∧(QaR e v num suf 0 ps).Pairwise LtL
 |[],num=>by simp[QaR]
 |p::ps,num=>by
  obtain⟨h1,h2⟩:=lab_0 e v suf ps (num+1);rw[Qbx,if_pos rfl,if_pos rfl];refine⟨fun q hq=>?_,List.pairwise_cons.2 ⟨fun q hq=>?_,h2⟩⟩
  ·rcases List.mem_cons.1 hq with rfl|hq
   ·exact⟨by show num<num+1;omega,by show num+1≤_;rw[qC];omega,rfl⟩
   ·have:=h1 q hq;rw[qC];omega
  ·have:=h1 q hq;exact .inl (by show num+1<q.num;omega)
theorem vers_k (m h e num:Int):∀(ts:List TextP) (k:Nat) (suf:Int) (vs:List Int),(∀p∈QaJ m h e (k+1) num suf vs ts,p.num=num∧suf<p.suf)∧(QaJ m h e (k+1) num suf vs ts).Pairwise LtL
 |[],k,suf,vs=>by simp[QaJ]
 |t::ts,k,suf,vs=>by
  rw[QaJ,if_neg (by omega),if_neg (by omega)];obtain⟨h1,h2⟩:=lab_k e (vs.headD 0) num k (Qak t.a t.b m h) suf;obtain⟨h3,h4⟩:=vers_k m h e num ts (k+1) (suf+(Qak t.a t.b m h).length) vs.tail;refine⟨fun p hp=>?_,List.pairwise_append.2 ⟨h2,h4,fun p hp q hq=>?_⟩⟩
  ·rcases List.mem_append.1 hp with hp|hp
   ·have:=h1 p hp;omega
   ·have:=h3 p hp;omega
  ·have:=h1 p hp;have:=h3 q hq;exact .inr ⟨by omega,by omega⟩
theorem vers_0 (m h e num:Int)(ts:List TextP)(vs:List Int)(ht:∀t∈ts,Qak t.a t.b m h≠[]):(∀p∈QaJ m h e 0 num 0 vs ts,num<p.num∧p.num≤num+(QaA m h ⟨e,true,vs,ts⟩:Nat))∧(QaJ m h e 0 num 0 vs ts).Pairwise LtL:=by
 cases ts with
 |nil=>simp[QaJ]
 |cons t ts=>
  rw[QaJ,if_pos rfl,if_pos rfl];obtain⟨h1,h2⟩:=lab_0 e (vs.headD 0) 0 (Qak t.a t.b m h) num;obtain⟨h3,h4⟩:=vers_k m h e (num+(Qak t.a t.b m h).length) ts 0 0 vs.tail;have hl:0<(Qak t.a t.b m h).length:=List.length_pos_iff.2 (ht t (by simp));have hpl:QaA m h ⟨e,true,vs,t::ts⟩=(Qak t.a t.b m h).length:=rfl;rw[hpl];refine⟨fun p hp=>?_,List.pairwise_append.2 ⟨h2,h4,fun p hp q hq=>?_⟩⟩
  ·rcases List.mem_append.1 hp with hp|hp
   ·have:=h1 p hp;omega
   ·have:=h3 p hp;omega
  ·have a1:=h1 p hp;have a2:=h3 q hq;rcases Int.lt_or_lt_of_ne (a:=p.num) (b:=q.num) |> fun _=>Classical.em (p.num=q.num) with h9|h9
   ·exact .inr ⟨h9,by omega⟩
   ·exact .inl (by omega)
theorem sects_lab {m h:Int}:∀(l:List SectP) (num:Int),(∀s∈l,∀t∈s.texts,Qak t.a t.b m h≠[])→(∀p∈Qaq m h num l,num<p.num)∧(Qaq m h num l).Pairwise LtL
 |[],num,_=>by simp[Qaq]
 |s::ss,num,H=>by
  rw[Qaq];obtain⟨h1,h2⟩:=vers_0 m h s.entry num s.texts s.vers (H s (by simp));obtain⟨h3,h4⟩:=sects_lab ss (num+QaA m h s) (fun x hx=>H x (by simp[hx]));have hpl:QaA m h ⟨s.entry,true,s.vers,s.texts⟩=QaA m h s:=rfl;rw[hpl] at h1;refine⟨fun p hp=>?_,List.pairwise_append.2 ⟨h2,h4,fun p hp q hq=>?_⟩⟩
  ·rcases List.mem_append.1 hp with hp|hp
   ·have:=h1 p hp;omega
   ·have:=h3 p hp;omega
  ·have:=h1 p hp;have:=h3 q hq;exact .inl (by omega)
theorem GoodB.lab {m h:Int}{l:List SectP}(H:GoodB m h l):(Qac m h l).Pairwise LtL:=(sects_lab l 0 fun s hs t ht=>okPages_some ((H.s s hs).w t ht)).2
def ExtS (s s':SectP):Prop:=s.frozen=true∧s'.entry=s.entry∧s'.frozen=true∧s.vers.length=s.texts.length∧s.texts≠[]∧∃vs ts,s'.vers=s.vers++vs∧s'.texts=s.texts++ts
def Ext:List SectP→List SectP→Prop
 |[],_=>True
 |s::P,l=>∃s' r,l=s'::r∧ExtS s s'∧Ext P r
theorem Ext.app:∀{P l:List SectP} (_:Ext P l) (r:List SectP),Ext P (l++r)
 |[],_,_,_=>trivial
 |s::P,l,⟨s',q,e,h1,h2⟩,r=>⟨s',q++r,by rw[e];rfl,h1,h2.app r⟩
theorem Ext.set:∀{P l:List SectP} (_:Ext P l) (k:Nat) (x:SectP) (_:∀s s':SectP,l[k]? =some s'→ExtS s s'→ExtS s x),Ext P (l.set k x)
 |[],_,_,_,_,_=>trivial
 |s::P,l,⟨s',q,e,h1,h2⟩,0,x,h=>by subst e;exact⟨x,q,rfl,h s s' rfl h1,h2⟩
 |s::P,l,⟨s',q,e,h1,h2⟩,k+1,x,h=>by subst e;exact⟨s',q.set k x,rfl,h1,h2.set k x fun a b hk=>h a b (by simpa using hk)⟩
theorem Ext.del:∀{P l:List SectP} (_:Ext P l) (k:Nat) (_:(l[k]?.map (·.frozen)).getD false=false),Ext P (l.eraseIdx k)
 |[],_,_,_,_=>trivial
 |s::P,l,⟨s',q,e,h1,h2⟩,0,h=>by
  subst e;have:=h1.2.2.1;simp[this] at h
 |s::P,l,⟨s',q,e,h1,h2⟩,k+1,h=>by subst e;exact⟨s',q.eraseIdx k,rfl,h1,h2.del k (by simpa using h)⟩
theorem Ext.strike {P l:List SectP}(H:Ext P l)(k:Nat):Ext P (QaM l k):=by
 unfold QaM;split
 ·exact H
 ·rename_i h;exact H.del k (by simpa using h)
theorem Ext.frz:∀{P l:List SectP} (_:Ext P l),Ext P (l.map Go.Proofs.YtakaielemicpkaaGreatDoor.frz)
 |[],_,_=>trivial
 |s::P,l,⟨s',q,e,h1,h2⟩=>by subst e;exact⟨Go.Proofs.YtakaielemicpkaaGreatDoor.frz s',q.map Go.Proofs.YtakaielemicpkaaGreatDoor.frz,rfl,⟨h1.1,h1.2.1,rfl,h1.2.2.2⟩,h2.frz⟩
theorem Ext.corr {P l:List SectP}(H:Ext P l)(k:Nat)(hk:k<l.length)(v:Int)(t:TextP):Ext P (l.set k (Qaz l[k] v t)):=
 H.set k _ fun s s' hs h=>by
  rw[qG hk] at hs;rw[Option.some.inj hs];obtain⟨h1,h2,h3,h4,h5,vs,ts,h6,h7⟩:=h;unfold Qaz;rw[h3];exact⟨h1,h2,rfl,h4,h5,vs++[v],ts++[t],by simp[h6],by simp[h7]⟩
theorem fitO_l {m h:Int}{L:List SectP}(hz:(fitO m h L).e=0):(fitO m h L).l=L:=by
 unfold fitO at hz ⊢;split
 ·rename_i h1;rw[if_pos h1] at hz;cases hz
 ·rfl
theorem noO_e {e:Int}(hz:(noO e).e=0):e=0:=hz
theorem DoneO.ext {m h:Int}{l P:List SectP}{o:BO}(H:DoneO m h l o)(hz:o.e=0)(hx:Ext P l):Ext P o.l:=by
 obtain⟨e,v,a,b,hsa,hsb,h1|h1|h1|h1⟩:=H
 ·subst h1;unfold addO at hz ⊢;split at hz
  ·rename_i h2;rw[if_pos h2,fitO_l hz];exact hx.app _
  ·rename_i h2;exact absurd (noO_e hz) h2
 ·subst h1;by_cases h2:Qdt m h l e v a b=0
  ·obtain⟨k,hk,h3,h4,h5,h6,h7⟩:=Qc2 h2;rw[corO_at hk h3 h2] at hz ⊢;rw[fitO_l hz];exact hx.corr k hk v ⟨a,b⟩
  ·unfold corO at hz;rw[if_neg h2] at hz;exact absurd (noO_e hz) h2
 ·subst h1;unfold strO at hz ⊢;split at hz
  ·cases hz
  ·rename_i h2;rw[if_neg h2];exact hx.strike _
 ·subst h1;exact hx.frz
theorem versB_app (m h e:Int):∀(ts ts':List TextP) (k:Nat) (num suf:Int) (vs vs':List Int),vs.length=ts.length→(QaJ m h e k num suf vs ts).Sublist (QaJ m h e k num suf (vs++vs') (ts++ts'))
 |[],ts',k,num,suf,vs,vs',hl=>by rw[QaJ];exact List.nil_sublist _
 |t::ts,ts',k,num,suf,[],vs',hl=>by simp at hl
 |t::ts,ts',k,num,suf,v::vs,vs',hl=>by
  rw[List.cons_append,List.cons_append,QaJ,QaJ];exact List.Sublist.append (List.Sublist.refl _) (versB_app m h e ts ts' _ _ _ vs vs' (by simpa using hl))
theorem Ext.pages {m h:Int}:∀{P l:List SectP} (_:Ext P l) (num:Int),(Qaq m h num P).Sublist (Qaq m h num l)
 |[],_,_,_=>by rw[Qaq];exact List.nil_sublist _
 |s::P,l,⟨s',q,e,⟨h1,h2,h3,h4,h5,vs,ts,h6,h7⟩,hr⟩,num=>by
  subst e;have hp:QaA m h s'=QaA m h s:=by
   unfold QaA;rw[h7];cases hs:s.texts with
   |nil=>exact absurd hs h5
   |cons t ts=>rfl
  rw[Qaq,Qaq,hp,h2,h6,h7];exact List.Sublist.append (versB_app m h s.entry s.texts ts 0 num 0 s.vers vs h4) (hr.pages _)
def QdK (l:List SectP)(p:PageP):List PageP:=(l.filter fun s=>decide (s.entry=p.entry)&&s.frozen).map fun _=>p
def keptW (l:List SectP)(ps:List PageP):List PageP:=ps.flatMap (QdK l)
theorem one_sect:∀{l:List SectP} {s:SectP} {e:Int},(l.map (·.entry)).Nodup→s∈l→s.entry=e→(l.filter fun x=>decide (x.entry=e)&&x.frozen)=if s.frozen=true then[s] else[]
 |[],s,e,_,h,_=>by simp at h
 |x::l,s,e,hd,h,he=>by
  rw[List.map_cons,List.nodup_cons] at hd;have hno:∀y∈l,y.entry=x.entry→False:=fun y hy e=>hd.1 (by rw[←e];exact List.mem_map_of_mem hy)
  rcases List.mem_cons.1 h with h1|h1
  ·subst h1
   have:(l.filter fun x=>decide (x.entry=e)&&x.frozen)=[]:=List.filter_eq_nil_iff.2 fun y hy=>by
    intro hc;simp at hc;exact hno y hy (by rw[hc.1,he])
   rw[List.filter_cons,this];simp[he]
  ·have hx:¬x.entry=e:=fun hc=>hno s h1 (by rw[he,hc])
   rw[List.filter_cons,one_sect hd.2 h1 he];simp[hx]
theorem Qeq (m h e:Int):∀(ts:List TextP) (k:Nat) (num suf:Int) (vs:List Int),∀p∈QaJ m h e k num suf vs ts,p.entry=e
 |[],k,num,suf,vs=>by simp[QaJ]
 |t::ts,k,num,suf,vs=>by
  rw[QaJ];intro p hp;rcases List.mem_append.1 hp with hp|hp
  ·have hl:∀(v num suf:Int) (ps:List PageP),∀p∈QaR e v num suf k ps,p.entry=e:=by
    intro v num suf ps;induction ps generalizing num suf with
    |nil=>simp[QaR]
    |cons q ps ih=>
     rw[Qbx];intro p hp;rcases List.mem_cons.1 hp with rfl|hp
     ·rfl
     ·exact ih _ _ p hp
   exact hl _ _ _ _ p hp
  ·exact Qeq m h e ts _ _ _ _ p hp
theorem flat_id {α:Type}{f:α→List α}:∀{ps:List α},(∀p∈ps,f p=[p])→ps.flatMap f=ps
 |[],_=>rfl
 |p::ps,h=>by rw[List.flatMap_cons,h p (by simp),flat_id fun q hq=>h q (by simp[hq])];rfl
theorem flat_nil {α:Type}{f:α→List α}:∀{ps:List α},(∀p∈ps,f p=[])→ps.flatMap f=[]
 |[],_=>rfl
 |p::ps,h=>by rw[List.flatMap_cons,h p (by simp),flat_nil fun q hq=>h q (by simp[hq])];rfl
theorem Qex {m h:Int}{l:List SectP}(hd:(l.map (·.entry)).Nodup):∀(q:List SectP) (num:Int),(∀s∈q,s∈l)→(q.Pairwise fun a b=>b.frozen=true→a.frozen=true)→keptW l (Qaq m h num q)=Qaq m h num (q.takeWhile (·.frozen))
 |[],num,_,_=>rfl
 |s::q,num,hm,hf=>by
  obtain⟨hf1,hf2⟩:=List.pairwise_cons.1 hf
  have hps:∀p∈QaJ m h s.entry 0 num 0 s.vers s.texts,QdK l p=if s.frozen=true then[p] else[]:=fun p hp=>by
   have he:=Qeq m h s.entry s.texts 0 num 0 s.vers p hp;unfold QdK;rw[one_sect hd (hm s (by simp)) he.symm];split<;>rfl
  have ih:=Qex (m:=m) (h:=h) hd q (num+QaA m h s) (fun x hx=>hm x (by simp[hx])) hf2;unfold keptW at ih ⊢;rw[Qaq,List.flatMap_append,ih];cases hs:s.frozen with
  |true=>
   rw[hs] at hps;rw[List.takeWhile_cons_of_pos hs,Qaq,flat_id fun p hp=>by rw[hps p hp];rfl]
  |false=>
   rw[hs] at hps;rw[List.takeWhile_cons_of_neg (by rw[hs];simp),flat_nil fun p hp=>by rw[hps p hp];rfl];cases q with
   |nil=>rfl
   |cons x q=>
    have hx:x.frozen=false:=by
     cases hxx:x.frozen
     ·rfl
     ·have:=hf1 x (by simp) hxx;rw[hs] at this;cases this
    rw[List.takeWhile_cons_of_neg (by rw[hx];simp)];rfl
theorem ext_self {m h:Int}:∀(l:List SectP),(∀s∈l,GoodS m h s)→Ext (l.takeWhile (·.frozen)) l
 |[],_=>trivial
 |s::l,H=>by
  cases hs:s.frozen with
  |true=>
   rw[List.takeWhile_cons_of_pos hs];have g:=H s (by simp);exact⟨s,l,rfl,⟨hs,rfl,hs,g.nt,fun e=>g.n (by rw[g.nt,e];rfl),[],[],by simp,by simp⟩,ext_self l fun x hx=>H x (by simp[hx])⟩
  |false=>
   rw[List.takeWhile_cons_of_neg (by rw[hs];simp)];trivial
def keptB (m h:Int)(l:List SectP):List PageP:=keptW l (Qac m h l)
theorem GoodB.kept {m h:Int}{l:List SectP}(H:GoodB m h l):keptB m h l=Qaq m h 0 (l.takeWhile (·.frozen)):=Qex H.d l 0 (fun _ h=>h) H.f
theorem kept_step {now:List PageP}(hn:now.Pairwise LtL){k:PageP}{ks:List PageP}{at0:Nat}(hs:(k::ks).Sublist (now.drop at0)):
 ∃at1:Nat,at0≤at1∧at1<now.length∧now[at1]? =some k∧ks.Sublist (now.drop at1)∧(∀i (hi:i<now.length),at0≤i→i<at1→¬(now[i].num=k.num∧now[i].suf=k.suf))∧QbE k.num k.suf now=some k:=by
 obtain⟨r1,r2,h1,h2,h3⟩:=List.cons_sublist_iff.1 hs;obtain⟨j,hj,hjk⟩:=List.getElem_of_mem h2;have hlt:at0+j<now.length:=by
  have:j<(now.drop at0).length:=(by rw[h1,qA];omega);rw[List.length_drop] at this;omega
 have hk:now[at0+j]=k:=by
  have e1:(now.drop at0)[j]'(by rw[List.length_drop];omega)=now[at0+j]:=(by rw[List.getElem_drop]);rw[←e1,←hjk];simp only[h1];rw[List.getElem_append_left hj]
 have hne:∀i (hi:i<now.length),i<at0+j→¬(now[i].num=k.num∧now[i].suf=k.suf):=fun i hi hij hc=>by
  have hp:=List.pairwise_iff_getElem.1 hn i (at0+j) hi hlt hij;rw[hk] at hp;unfold LtL at hp;omega
 refine⟨at0+j,by omega,hlt,by rw[qG hlt,hk],?_,fun i hi h4 h5=>hne i hi h5,?_⟩
 ·have:now.drop (at0+j)=r1.drop j++r2:=by
   rw[←List.drop_drop,h1,List.drop_append_of_le_length (by omega)]
  rw[this];exact h3.trans (List.sublist_append_right _ _)
 ·rw[←hk];exact pageAt_hit hlt ⟨rfl,rfl⟩ fun i hi h5=>by rw[hk];exact hne i hi h5
structure CgI (V:World)(b1:Nat)(m h:Int)(k:Nat)(l:List SectP)(A:Option Addr)(c:Nat)(w:World):Prop where
 b:ABox w b1 27 [.int .i64 m,.int .i64 h,.slice A l.length c]
 g:StB k m h l
 s:Sl w (fun b=>b<w.heap.size∧b≠b1) A c l
 k:Below b1 V w
theorem CgI.to {V w w':World}{b1:Nat}{m h:Int}{k:Nat}{l:List SectP}{A:Option Addr}{c:Nat}(H:CgI V b1 m h k l A c w)(hb:Below w.heap.size w w'):CgI V b1 m h k l A c w':=⟨H.b.to hb,H.g,Qb0 H.s hb,H.k.trans (hb.mono (Nat.le_of_lt H.b.lt))⟩
theorem CgI.st {V w:World}{b1:Nat}{m h:Int}{j k:Nat}{l:List SectP}{A:Option Addr}{c:Nat}(H:CgI V b1 m h j l A c w)(hjk:j≤k):CgI V b1 m h k l A c w:=⟨H.b,H.g.mono hjk,H.s,H.k⟩
structure RS (b1:Nat)(cs:List Value)(ba oa:Nat)(x:ActP)(At:Option Addr)(ct:Nat)(w:World):Prop where
 b:ABox w b1 27 cs
 lt:ba<w.heap.size
 a0:w.cell? ⟨ba,oa,none⟩=some (.int .i64 x.kind)
 a1:w.cell? ⟨ba,oa+1,none⟩=some (.int .i64 x.entry)
 a2:w.cell? ⟨ba,oa+2,none⟩=some (.int .i64 x.version)
 a3:w.cell? ⟨ba,oa+3,none⟩=some (.slice At x.text.length ct)
theorem RS.to {b1:Nat}{cs:List Value}{ba oa:Nat}{x:ActP}{At:Option Addr}{ct:Nat}{w w':World}(H:RS b1 cs ba oa x At ct w)(hb:Below w.heap.size w w'):RS b1 cs ba oa x At ct w':=⟨H.b.to hb,Nat.lt_of_lt_of_le H.lt hb.size,(hb.cell (p:=⟨ba,oa,none⟩) H.lt).trans H.a0,(hb.cell (p:=⟨ba,oa+1,none⟩) H.lt).trans H.a1,(hb.cell (p:=⟨ba,oa+2,none⟩) H.lt).trans H.a2,(hb.cell (p:=⟨ba,oa+3,none⟩) H.lt).trans H.a3⟩
theorem RS.s3 {b1:Nat}{cs:List Value}{ba oa:Nat}{x:ActP}{At:Option Addr}{ct:Nat}{w:World}{X:Nat}(H:RS b1 cs ba oa x At ct w)(h1:b1≠X)(h2:ba≠X)(u v s:Value):RS b1 cs ba oa x At ct (((w.setCell ⟨X,0,none⟩ u).setCell ⟨X,1,none⟩ v).setCell ⟨X,2,none⟩ s):=by
 have e:∀q,(((w.setCell ⟨X,0,none⟩ u).setCell ⟨X,1,none⟩ v).setCell ⟨X,2,none⟩ s).cell? ⟨ba,q,none⟩=w.cell? ⟨ba,q,none⟩:=fun q=>by
  unfold World.cell?;rw[Qaa _ _ _ _ h2,Qaa _ _ _ _ h2,Qaa _ _ _ _ h2]
 exact⟨QaN H.b h1 u v s,by simpa using H.lt,(e _).trans H.a0,(e _).trans H.a1,(e _).trans H.a2,(e _).trans H.a3⟩
structure RG (V:World)(b1:Nat)(m h:Int)(k:Nat)(l:List SectP)(A:Option Addr)(c:Nat)(o:BO)(A1:Option Addr)(c1:Nat)(A2:Option Addr)(c2:Nat)(Y7 Y9:Nat)(w:World):Prop where
 c:CgI V b1 m h k l A c w
 d:DoneO m h l o
 x:ABox w Y7 27 [.int .i64 o.m,.int .i64 o.h,.slice A1 o.l.length c1]
 y:ABox w Y9 27 [.int .i64 o.m,.int .i64 o.h,.slice A2 o.l.length c2]
 s1:Sl w (fun b=>b<w.heap.size∧b≠b1) A1 c1 o.l
 s2:Sl w (fun b=>b<w.heap.size∧b≠b1) A2 c2 o.l
 ne:b1<Y7∧b1<Y9
end Go.Proofs.YtakaielemicpkaaGreatDoor
namespace Go.Proofs.YtakaielemicpkaaGreatDoor
open Go.RowKit
attribute [local go_sem] Oper.semAt_some
structure PI (n:Nat)(w:World)(ln ls:Int)(u0 u1 u2 u3 u4 u5:Value)(rb:Bool)(W:World):Prop where
 x1:ABox W (n+1) 24 [.int .i64 ln,.int .i64 ls]
 x2:ABox W (n+1+1) 36 [u0,u1,u2,u3,u4,u5]
 x3:ABox W (n+1+1+1) 4 [.bool rb]
 bl:Below n w W
section
variable {n:Nat} {w:World} {ln ls:Int} {u0 u1 u2 u3 u4 u5:Value} {rb:Bool} {W W':World}
theorem PI.keep (h:PI n w ln ls u0 u1 u2 u3 u4 u5 rb W)(hb:∀i,n≤i→i<n+4→W'.heap[i]? =W.heap[i]?)(hl:Below n w W'):PI n w ln ls u0 u1 u2 u3 u4 u5 rb W':=
 ⟨(hb _ (by omega) (by omega)).trans h.x1,(hb _ (by omega) (by omega)).trans h.x2,(hb _ (by omega) (by omega)).trans h.x3,hl⟩
theorem PI.lt (h:PI n w ln ls u0 u1 u2 u3 u4 u5 rb W):n+4≤W.heap.size:=by have:=h.x3.lt;omega
theorem PI.to (h:PI n w ln ls u0 u1 u2 u3 u4 u5 rb W)(hb:Below W.heap.size W W'):PI n w ln ls u0 u1 u2 u3 u4 u5 rb W':=
 h.keep (fun i _ hi=>hb.block i (by have:=h.lt;omega)) (h.bl.trans (hb.mono (by have:=h.lt;omega)))
theorem PI.ks (h:PI n w ln ls u0 u1 u2 u3 u4 u5 rb W){N:Nat}{R:Nat→Prop}(hN:n+4≤N)(hk:KS (fun i=>i<N∨R i) W W'):PI n w ln ls u0 u1 u2 u3 u4 u5 rb W':=
 h.keep (fun i _ hi=>hk.block i (.inl (by omega)) (by have:=h.lt;omega)) (h.bl.trans (hk.below (fun i hi=>.inl (by omega)) (by have:=h.lt;omega)))
theorem PI.grown (h:PI n w ln ls u0 u1 u2 u3 u4 u5 rb W){row:Option Nat}(hg:W.grownBy W' row)(hr:∀r,row=some r→n+4≤r):PI n w ln ls u0 u1 u2 u3 u4 u5 rb W':=
 h.keep (fun i _ hi=>hg.block i (by have:=h.lt;omega) (fun e=>by have:=hr _ e.symm;omega)) (h.bl.grown hg (by have:=h.lt;omega) (fun k hk=>by have:=hr _ hk;omega))
theorem PI.found (h:PI n w ln ls u0 u1 u2 u3 u4 u5 rb W)(v0 v1 v2 v3 v4 v5:Value)(d:Bool):PI n w ln ls v0 v1 v2 v3 v4 v5 d (((((((W.setCell ⟨n+1+1,0,none⟩ (v0)).setCell ⟨n+1+1,1,none⟩ (v1)).setCell ⟨n+1+1,2,none⟩ (v2)).setCell ⟨n+1+1,3,none⟩ (v3)).setCell ⟨n+1+1,4,none⟩ (v4)).setCell ⟨n+1+1,5,none⟩ (v5)).setCell ⟨n+1+1+1,0,none⟩ (.bool d)):=by
 have hb:=(below6 h.bl (b:=n+1+1) (by omega) v0 v1 v2 v3 v4 v5).setCell (p:=⟨n+1+1+1,0,none⟩) (by show n≤n+1+1+1;omega) (.bool d);refine⟨?_,?_,?_,hb⟩
 ·exact(Qaa _ _ _ _ (by omega)).trans ((heap6 _ _ _ _ _ _ _ _ (by omega)).trans h.x1)
 ·have:=((((((h.x2.set 0 (v0)).set 1 (v1)).set 2 (v2)).set 3 (v3)).set 4 (v4)).set 5 (v5)).other (Q:=n+1+1+1) (by omega) 0 (.bool d);simpa using this
 ·have h3:ABox ((((((W.setCell ⟨n+1+1,0,none⟩ (v0)).setCell ⟨n+1+1,1,none⟩ (v1)).setCell ⟨n+1+1,2,none⟩ (v2)).setCell ⟨n+1+1,3,none⟩ (v3)).setCell ⟨n+1+1,4,none⟩ (v4)).setCell ⟨n+1+1,5,none⟩ (v5)) (n+1+1+1) 4 [.bool rb]:=(heap6 _ _ _ _ _ _ _ _ (by omega)).trans h.x3;have:=h3.set 0 (.bool d);simpa using this
end
theorem Qcn {P:Program}{fn:Func}{p q:Tmp}{ty t1:TypeId}(h:fn.results=#[.cell p ty,.cell q t1])(tmps:Array Value)(w:World)(g g1:Nat)(t:TypeId)(cs:Array Value)(fr:Nat × Nat)(d:TypeDesc)(u1:Value) (hp:tmps.getD p undef=.pointer (some ⟨g,0,none⟩)) (hq:tmps.getD q undef=.pointer (some ⟨g1,0,none⟩)) (hg:w.heap[g]? =some (.cells cs t fr)) (h1:w.cell? ⟨g1,0,none⟩=some u1) (hu:P.underlying ty=some d) (hd:(match d with|.struct _|.array _ _=>true|_=>false)=true) (hi:(P.info? ty).map (·.size)=some cs.size) (ha1:∀w,(isAgg t1).run P w=.ok false w):
 (results fn tmps).run P w=.ok (.tuple #[.agg cs,u1]) w:=by
 have hp':tmps[p]?.getD undef=.pointer (some ⟨g,0,none⟩):=by simpa using hp
 have hq':tmps[q]?.getD undef=.pointer (some ⟨g1,0,none⟩):=by simpa using hq
 simp[results,h,hp',hq',asAddr,run_loadVar_row w g t ty cs fr d hg hu hd hi,QbH ha1 h1]
theorem Qcl {n s:Int}(l m:List PageP):QbE n s (l++m)=(QbE n s l).or (QbE n s m):=by
 unfold QbE;exact List.find?_append
set_option maxRecDepth 100000 in
theorem page_any {m h:Int}{A:Option Addr}{c:Nat}{l:List SectP}{w:World}(H:BookOk w m h A c l)(ln ls:Int):
 Calls Tryz.prog 14 #[.agg #[.int .i64 m,.int .i64 h,.slice A l.length c],.agg #[.int .i64 ln,.int .i64 ls]] w fun e W'=>PgP w.heap.size (QbE ln ls (Qac m h l)) e W'∧Below w.heap.size w W':=by
 refine(callsIn_wide (n:=4)).1 ?_;refine callsIn_of_wp_marks Tryz.func14 rfl trivial ?_ rfl;simp only[Tryz.ntmps14,List.size_toArray,qC,List.length_nil,Nat.reduceAdd,Nat.reduceSub,Array.replicate_succ,Array.replicate_zero,List.push_toArray,List.append_toArray,List.nil_append,List.cons_append];obtain⟨wb,hwb⟩:∃wb,(((w.alloc (.cells #[.int .i64 m,.int .i64 h,.slice A l.length c] 27)).alloc (.cells #[.int .i64 ln,.int .i64 ls] 24)).alloc (.cells #[.int .i64 0,.int .i64 0,.int .i64 0,.int .i64 0,.slice none 0 0,.slice none 0 0] 36)).alloc (.cells #[.bool false] 4)=wb:=⟨_,rfl⟩;have hba:Below w.heap.size w wb:=by rw[←hwb];exact((((bR.alloc nL _).alloc (by simp) _).alloc (by simp;omega) _).alloc (by simp;omega) _)
 have hz:wb.heap.size=w.heap.size+4:=by rw[←hwb];simp
 have hx0:ABox wb w.heap.size 27 [.int .i64 m,.int .i64 h,.slice A l.length c]:=by rw[←hwb];repeat(first|exact Qai (by simp;done)|refine(Below.heap_alloc _ _ _ (by simp;try omega)).trans ?_)
 have hx1:ABox wb (w.heap.size+1) 24 [.int .i64 ln,.int .i64 ls]:=by rw[←hwb];repeat(first|exact Qai (by simp;done)|refine(Below.heap_alloc _ _ _ (by simp;try omega)).trans ?_)
 have hx2:ABox wb (w.heap.size+1+1) 36 [.int .i64 0,.int .i64 0,.int .i64 0,.int .i64 0,.slice none 0 0,.slice none 0 0]:=by rw[←hwb];repeat(first|exact Qai (by simp;done)|refine(Below.heap_alloc _ _ _ (by simp;try omega)).trans ?_)
 have hx3:ABox wb (w.heap.size+1+1+1) 4 [.bool false]:=by rw[←hwb];repeat(first|exact Qai (by simp;done)|refine(Below.heap_alloc _ _ _ (by simp;try omega)).trans ?_)
 have k0:=hx0.cell 0 rfl;have k1:=hx0.cell 1 rfl;have k2:=hx0.cell 2 rfl;have HWB:=Lh hwb;gi_upto_region 1 with(fail)
 (try rw[HWB.out]);have hbo:=H.to hba;have HX0w:Hid (PI w.heap.size w ln ls (.int .i64 0) (.int .i64 0) (.int .i64 0) (.int .i64 0) (.slice none 0 0) (.slice none 0 0) false wb):=Lh ⟨hx1,hx2,hx3,hba⟩;have HZ:=Lh hz;clear hx0 hx1 hx2 hx3 hba hz hwb H;gi_wp2;refine⟨trivial,CallsIn.mono (callsIn_wide.2 (ball_any m h (.slice A l.length c) wb)) ?_⟩;rintro e w1 ⟨rfl,rfl⟩;gi_wp2;obtain⟨wa,hwa⟩:∃wa,wb.alloc (.cells #[.int .i64 m,.int .i64 h,.slice A l.length c] 27)=wa:=⟨_,rfl⟩;have hbw:Below wb.heap.size wb wa:=by rw[←hwa];exact bR.alloc nL _
 have hza:wa.heap.size=w.heap.size+5:=by rw[←hwa];simp;exact HZ.out
 have hseq:=all_seq (4-1) (by omega) hbo hwa.symm;have HWI:=Lh (HX0w.out.to hbw);rw[hwa];clear hwa HX0w HWB hbo k0 k1 k2
 refine Qbw rfl (by omega) (gf:=65) (lb:=#[.pointer (some ⟨wb.heap.size,0,none⟩)]) rfl trivial (enters_of Tryz.func65 (by kernel_rfl) rfl) hseq bR nL (fun _=>rfl) PV.pr_keep PV.pr_mono (fun pre M R W=>PI w.heap.size w ln ls (.int .i64 0) (.int .i64 0) (.int .i64 0) (.int .i64 0) (.slice none 0 0) (.slice none 0 0) false W∧QbE ln ls (pre.map PV.plain)=none) (fun c pre W=>c=.ret∧∃x:PV,QbE ln ls (pre.map PV.plain)=some x.plain∧PI w.heap.size w ln ls (.int .i64 x.num) (.int .i64 x.suf) (.int .i64 x.entry) (.int .i64 x.ver) (.slice x.Aa x.body.length x.ca) (.slice x.Ab x.notes.length x.cb) true W∧Rep.R W (fun i=>IsC W i∧Up w.heap.size i) [.slice x.Aa x.body.length x.ca] x.body∧Rep.R W (fun i=>IsC W i∧Up w.heap.size i) [.slice x.Ab x.notes.length x.cb] x.notes)
  (fun pre M R X Y hc hk=>⟨hc.1.ks (by omega) hk,hc.2⟩) (fun c s X Y row hs hg hr=>by
   obtain⟨e,x,h1,h2,h3,h4⟩:=hs
   have hC:∀i,IsC X i→some i≠row:=fun i hi he=>by
    obtain⟨_,o,ho,hc⟩:=hr i he.symm
    obtain⟨cs,t,fr,hi⟩:=hi
    rw[hi] at ho;cases ho;cases hc
   exact⟨e,x,h1,h2.grown hg (fun r e=>by have:=(hr r e).1;omega),QdP h3 hg hC,QdP h4 hg hC⟩)
  ⟨HWI.out,rfl⟩
  (fun k x a' W=>∃Bx,k≤Bx∧ABox W Bx 36 [.int .i64 x.num,.int .i64 x.suf,.int .i64 x.entry,.int .i64 x.ver,.slice x.Aa x.body.length x.ca,.slice x.Ab x.notes.length x.cb]∧a'={tmps:=#[.agg #[.int .i64 m,.int .i64 h,.slice A l.length c],.agg #[.int .i64 ln,.int .i64 ls],.pointer (some ⟨w.heap.size,0,none⟩),.pointer (some ⟨w.heap.size+1,0,none⟩),.pointer (some ⟨w.heap.size+1+1,0,none⟩),.pointer (some ⟨w.heap.size+1+1+1,0,none⟩),.pointer (some ⟨Bx,0,none⟩),.agg #[.int .i64 m,.int .i64 h,.slice A l.length c],.func (.func 65) #[] #[.pointer (some ⟨wb.heap.size,0,none⟩)],.agg #[.int .i64 x.num,.int .i64 x.suf,.int .i64 x.entry,.int .i64 x.ver,.slice x.Aa x.body.length x.ca,.slice x.Ab x.notes.length x.cb],undef,undef,undef,undef,undef,undef],defers:=[]})
  (fun k x a' s X Y row ⟨Bx,h1,h2,h3⟩ hg hr=>⟨Bx,h1,(hg.block Bx h2.lt (fun e=>by obtain⟨_,o,ho,hc⟩:=hr Bx e.symm;rw[show X.heap[Bx]? =_ from h2] at ho;cases ho;cases hc)).trans h2,h3⟩)
  ?assign ?body ?done ?stop
 case assign=>
  intro lp x W K hK;obtain⟨n1,s1,e1,v1,bo,no,Aa,ca,Ab,cb⟩:=x;unfold PV.enc;gi_wp2;exact hK _ _ (bR.alloc nL _) ⟨W.heap.size,Nat.le_refl _,heap_alloc_new W _,rfl⟩
 case body=>
  rintro lp pre M R PM x a' W Wp ⟨-,hw0⟩ hWp ⟨hwi,-⟩ hsz hM hR ⟨Bx,hBx,bX,rfl⟩ hlen hpr hpm;obtain⟨n1,s1,e1,v1,bo,no,Aa,ca,Ab,cb⟩:=x;dsimp only at bX hpr ⊢;have x0:=bX.cell 0 rfl;have x1:=bX.cell 1 rfl;have y0:=hwi.x1.cell 0 rfl;have y1:=hwi.x1.cell 1 rfl;have HW0:=Lh hw0;have HWI:=Lh hwi;have HBX:=Lh bX;have HPR:=Lh hpr;have HPM:=Lh hpm;clear hw0 hwi bX hpr hpm hM hR;by_cases he:n1=ln∧s1=ls
  ·have HFIN:Hid (QbE ln ls ((pre++[(⟨n1,s1,e1,v1,bo,no,Aa,ca,Ab,cb⟩:PV)]).map PV.plain)=some ⟨n1,s1,e1,v1,bo,no⟩):=Lh (by
    rw[List.map_append,Qcl,HW0.out,Option.none_or]
    show QbE ln ls [(⟨n1,s1,e1,v1,bo,no⟩:PageP)]=_
    unfold QbE
    rw[List.find?_cons,decide_eq_true (show n1=ln∧s1=ls from he)])
   obtain⟨he1,he2⟩:=he;rw[←he1] at y0;rw[←he2] at y1;clear he1 he2;gi_upto_region 4 with(fail)
   clear x0 x1 y0 y1;have x0:=HBX.out.cell 0 rfl;have x1:=HBX.out.cell 1 rfl;have x2:=HBX.out.cell 2 rfl;have x3:=HBX.out.cell 3 rfl;have x4:=HBX.out.cell 4 rfl;have x5:=HBX.out.cell 5 rfl;have hy0:=HWI.out.x2;have z0:=hy0.cell 0 rfl;have f0:=hy0.fz 0;have hy1:=hy0.set 0 (.int .i64 n1);have z1:=hy1.cell 1 rfl;have f1:=hy1.fz 1;have hy2:=hy1.set 1 (.int .i64 s1);have z2:=hy2.cell 2 rfl;have f2:=hy2.fz 2;have hy3:=hy2.set 2 (.int .i64 e1);have z3:=hy3.cell 3 rfl;have f3:=hy3.fz 3;have hy4:=hy3.set 3 (.int .i64 v1);have z4:=hy4.cell 4 rfl;have f4:=hy4.fz 4;have hy5:=hy4.set 4 (.slice Aa bo.length ca);have z5:=hy5.cell 5 rfl;have f5:=hy5.fz 5;have hy6:=hy5.set 5 (.slice Ab no.length cb);have hy3:ABox ((((((W.setCell ⟨w.heap.size+1+1,0,none⟩ (.int .i64 n1)).setCell ⟨w.heap.size+1+1,1,none⟩ (.int .i64 s1)).setCell ⟨w.heap.size+1+1,2,none⟩ (.int .i64 e1)).setCell ⟨w.heap.size+1+1,3,none⟩ (.int .i64 v1)).setCell ⟨w.heap.size+1+1,4,none⟩ (.slice Aa bo.length ca)).setCell ⟨w.heap.size+1+1,5,none⟩ (.slice Ab no.length cb)) (w.heap.size+1+1+1) 4 [.bool false]:=(heap6 _ _ _ _ _ _ _ _ (by omega)).trans HWI.out.x3;have q3:=hy3.cell 0 rfl;have r3:=hy3.fz 0;clear hy0 hy1 hy2 hy3 hy4 hy5 hy6;have HFO:=Lh (HWI.out.found (.int .i64 n1) (.int .i64 s1) (.int .i64 e1) (.int .i64 v1) (.slice Aa bo.length ca) (.slice Ab no.length cb) true);have hksw:KS PM W (((((((W.setCell ⟨w.heap.size+1+1,0,none⟩ (.int .i64 n1)).setCell ⟨w.heap.size+1+1,1,none⟩ (.int .i64 s1)).setCell ⟨w.heap.size+1+1,2,none⟩ (.int .i64 e1)).setCell ⟨w.heap.size+1+1,3,none⟩ (.int .i64 v1)).setCell ⟨w.heap.size+1+1,4,none⟩ (.slice Aa bo.length ca)).setCell ⟨w.heap.size+1+1,5,none⟩ (.slice Ab no.length cb)).setCell ⟨w.heap.size+1+1+1,0,none⟩ (.bool true)):=by
    have hq:¬PM (w.heap.size+1+1)∧¬PM (w.heap.size+1+1+1):=⟨fun h=>by have:=(HPM.out _ h).1;omega,fun h=>by have:=(HPM.out _ h).1;omega⟩;exact((((((KS.setCell _ _ hq.1).trans (KS.setCell _ _ hq.1)).trans (KS.setCell _ _ hq.1)).trans (KS.setCell _ _ hq.1)).trans (KS.setCell _ _ hq.1)).trans (KS.setCell _ _ hq.1)).trans (KS.setCell _ _ hq.2)
   have HPR2:=Lh (PV.pr_keep _ _ _ _ HPR.out hksw);clear hksw;gi_wp2;have hup:∀i,PM i→Up w.heap.size i:=fun i hi=>by have:=(HPM.out i hi).1;show w.heap.size≤i;omega
   refine⟨⟨rfl,⟨n1,s1,e1,v1,bo,no,Aa,ca,Ab,cb⟩,HFIN.out,HFO.out,Rep.mono (repL_isC HPR2.out.1) (fun i hi _=>⟨hi.1,hup i hi.2⟩),Rep.mono (repL_isC HPR2.out.2.1) (fun i hi _=>⟨hi.1,hup i hi.2⟩)⟩,?_⟩;have hq:¬(w.heap.size+1+1=wa.heap.size∨w.heap.size+1+1=wa.heap.size+1)∧¬(w.heap.size+1+1+1=wa.heap.size∨w.heap.size+1+1+1=wa.heap.size+1):=by omega
   exact((((((KS.setCell _ _ hq.1).trans (KS.setCell _ _ hq.1)).trans (KS.setCell _ _ hq.1)).trans (KS.setCell _ _ hq.1)).trans (KS.setCell _ _ hq.1)).trans (KS.setCell _ _ hq.1)).trans (KS.setCell _ _ hq.2)
  ·have HFIN:Hid (QbE ln ls ((pre++[(⟨n1,s1,e1,v1,bo,no,Aa,ca,Ab,cb⟩:PV)]).map PV.plain)=none):=Lh (by
    rw[List.map_append,Qcl,HW0.out]
    show QbE ln ls [(⟨n1,s1,e1,v1,bo,no⟩:PageP)]=none
    unfold QbE
    rw[List.find?_cons,decide_eq_false (show ¬(n1=ln∧s1=ls) from he)];rfl)
   by_cases h1:n1=ln
   ·have h2:¬s1=ls:=fun e=>he ⟨h1,e⟩
    clear he;gi_wp2;exact⟨M,R,⟨HWI.out,HFIN.out⟩,KS.refl _ _,fun i h=>.inl h,fun i h=>.inl h⟩
   ·clear he;gi_wp2;exact⟨M,R,⟨HWI.out,HFIN.out⟩,KS.refl _ _,fun i h=>.inl h,fun i h=>.inl h⟩
 case done=>
  rintro D xs M R W hD hD2 hS ⟨hwi,hw0⟩ hK;rw[hS] at hw0;have HW0:=Lh hw0;have HK:=Lh hK;have HWI:=Lh hwi;clear hw0 hK hwi hS;have hy0:=HWI.out.x2;have z0:=hy0.cell 0 rfl;have f0:=hy0.fz 0;have hy1:=hy0.set 0 (.int .i64 0);have z1:=hy1.cell 1 rfl;have f1:=hy1.fz 1;have hy2:=hy1.set 1 (.int .i64 0);have z2:=hy2.cell 2 rfl;have f2:=hy2.fz 2;have hy3:=hy2.set 2 (.int .i64 0);have z3:=hy3.cell 3 rfl;have f3:=hy3.fz 3;have hy4:=hy3.set 3 (.int .i64 0);have z4:=hy4.cell 4 rfl;have f4:=hy4.fz 4;have hy5:=hy4.set 4 (.slice none 0 0);have z5:=hy5.cell 5 rfl;have f5:=hy5.fz 5;have hy6:=hy5.set 5 (.slice none 0 0);have hy3:ABox ((((((W.setCell ⟨w.heap.size+1+1,0,none⟩ (.int .i64 0)).setCell ⟨w.heap.size+1+1,1,none⟩ (.int .i64 0)).setCell ⟨w.heap.size+1+1,2,none⟩ (.int .i64 0)).setCell ⟨w.heap.size+1+1,3,none⟩ (.int .i64 0)).setCell ⟨w.heap.size+1+1,4,none⟩ (.slice none 0 0)).setCell ⟨w.heap.size+1+1,5,none⟩ (.slice none 0 0)) (w.heap.size+1+1+1) 4 [.bool false]:=(heap6 _ _ _ _ _ _ _ _ (by omega)).trans HWI.out.x3;have q3:=hy3.cell 0 rfl;have r3:=hy3.fz 0;have HF:=Lh (HWI.out.found (.int .i64 0) (.int .i64 0) (.int .i64 0) (.int .i64 0) (.slice none 0 0) (.slice none 0 0) false);have HKF:Hid ((((((((W.setCell ⟨w.heap.size+1+1,0,none⟩ (.int .i64 0)).setCell ⟨w.heap.size+1+1,1,none⟩ (.int .i64 0)).setCell ⟨w.heap.size+1+1,2,none⟩ (.int .i64 0)).setCell ⟨w.heap.size+1+1,3,none⟩ (.int .i64 0)).setCell ⟨w.heap.size+1+1,4,none⟩ (.slice none 0 0)).setCell ⟨w.heap.size+1+1,5,none⟩ (.slice none 0 0)).setCell ⟨w.heap.size+1+1+1,0,none⟩ (.bool false)).heap[D]? =some (.deferred (some []))):=Lh ((Qaa _ _ _ _ (by omega)).trans ((heap6 _ _ _ _ _ _ _ _ (by omega)).trans HK.out));clear hy0 hy1 hy2 hy3 hy4 hy5 hy6;gi_wp2;clear z0 z1 z2 z3 z4 z5 f0 f1 f2 f3 f4 f5 q3 r3;have hF:=HF.out;have hKf:=HKF.out;clear HF HKF;generalize (((((((W.setCell ⟨w.heap.size+1+1,0,none⟩ (.int .i64 0)).setCell ⟨w.heap.size+1+1,1,none⟩ (.int .i64 0)).setCell ⟨w.heap.size+1+1,2,none⟩ (.int .i64 0)).setCell ⟨w.heap.size+1+1,3,none⟩ (.int .i64 0)).setCell ⟨w.heap.size+1+1,4,none⟩ (.slice none 0 0)).setCell ⟨w.heap.size+1+1,5,none⟩ (.slice none 0 0)).setCell ⟨w.heap.size+1+1+1,0,none⟩ (.bool false))=Wf at*;refine⟨by simp,.inl ⟨_,_,rfl,run_takeDeferred hKf,?_⟩⟩;have hg:=grownBy_putObj' Wf D (.deferred none);have HG:=Lh (hF.grown hg (fun k hk=>by cases hk;omega));exact⟨_,Qcn Tryz.results14 _ _ (w.heap.size+1+1) (w.heap.size+1+1+1) _ _ (0,0) _ _ rfl rfl HG.out.x2 (HG.out.x3.cell 0 rfl) Tryz.underlying36 rfl (by kernel_rfl) Tryz.isAgg4,PgP.no _ HW0.out,HG.out.bl⟩
 case stop=>
  rintro D c pre W hD hD2 ⟨k,hk⟩ ⟨rfl,x,hwh,hwi,hr1,hr2⟩ hK
  have HW0:Hid (QbE ln ls (Qac m h l)=some x.plain):=Lh (by
   rw[←List.take_append_drop k (Qac m h l),Qcl,←hk,hwh];rfl)
  have HK:=Lh hK;have HWI:=Lh hwi;have HR1:=Lh hr1;have HR2:=Lh hr2;clear hwh hK hwi hk hr1 hr2;gi_wp2;refine⟨by simp,.inl ⟨_,_,rfl,run_takeDeferred HK.out,?_⟩⟩;have hg:=grownBy_putObj' W D (.deferred none);have HG:=Lh (HWI.out.grown hg (fun k hk=>by cases hk;omega))
  have hC:∀i,IsC W i→some i≠some D:=fun i hi he=>by
   obtain⟨cs,t,fr,hi⟩:=hi;cases he;rw[HK.out] at hi;cases hi
  obtain⟨A5,c5,e5,hs5,-⟩:=QdP HR1.out hg hC;obtain⟨A6,c6,e6,hs6,-⟩:=QdP HR2.out hg hC;cases e5;cases e6;exact⟨_,Qcn Tryz.results14 _ _ (w.heap.size+1+1) (w.heap.size+1+1+1) _ _ (0,0) _ _ rfl rfl HG.out.x2 (HG.out.x3.cell 0 rfl) Tryz.underlying36 rfl (by kernel_rfl) Tryz.isAgg4,PgP.yes (p:=x.plain) HW0.out (hs5.mono fun i hi _=>hi.2) (hs6.mono fun i hi _=>hi.2),HG.out.bl⟩
end Go.Proofs.YtakaielemicpkaaGreatDoor
namespace Go.Proofs.YtakaielemicpkaaGreatDoor
open Go.RowKit
theorem QdA (nu su en ve:Int)(A B A2 B2:Option Addr)(c d c2 d2 nb nn:Nat)(bo no:List LineP)(w:World)(h1:Sl w (fun b=>b<w.heap.size) A c bo)(h2:Sl w (fun b=>b<w.heap.size) B d no)(h3:Sl w (fun b=>b<w.heap.size) A2 c2 bo)(h4:Sl w (fun b=>b<w.heap.size) B2 d2 no)(hnb:bo.length=nb)(hnn:no.length=nn)(hl1:nb≤1048576)(hl2:nn≤1048576)(hs1:QaF bo)(hs2:QaF no):
 Calls Tryz.prog 16 #[.agg #[.int .i64 nu,.int .i64 su,.int .i64 en,.int .i64 ve,.slice A nb c,.slice B nn d],.agg #[.int .i64 nu,.int .i64 su,.int .i64 en,.int .i64 ve,.slice A2 nb c2,.slice B2 nn d2]] w fun e w'=>e=.returned (.bool true)∧Below w.heap.size w w':=by
 obtain⟨wb,hwb⟩:∃wb,(w.alloc (.cells #[.int .i64 nu,.int .i64 su,.int .i64 en,.int .i64 ve,.slice A nb c,.slice B nn d] 36)).alloc (.cells #[.int .i64 nu,.int .i64 su,.int .i64 en,.int .i64 ve,.slice A2 nb c2,.slice B2 nn d2] 36)=wb:=⟨_,rfl⟩;have hba:Below w.heap.size w wb:=by rw[←hwb];exact(bR.alloc nL _).alloc (by simp) _
 have hx0:ABox wb w.heap.size 36 [.int .i64 nu,.int .i64 su,.int .i64 en,.int .i64 ve,.slice A nb c,.slice B nn d]:=by rw[←hwb];exact(Below.heap_alloc _ _ _ (by simp)).trans (heap_alloc_new w _)
 have hx1:ABox wb (w.heap.size+1) 36 [.int .i64 nu,.int .i64 su,.int .i64 en,.int .i64 ve,.slice A2 nb c2,.slice B2 nn d2]:=by rw[←hwb];exact Qai (by simp)
 have H1:=Lh (h1.to hba);have H2:=Lh (h2.to hba);have H3:=Lh (h3.to hba);have H4:=Lh (h4.to hba);have HNB:=Lh hnb;have HNN:=Lh hnn;have HS1:=Lh hs1;have HS2:=Lh hs2;have HBA:=Lh hba;have HX0:=Lh hx0;have HX1:=Lh hx1;clear h1 h2 h3 h4 hnb hnn hs1 hs2 hba hx0 hx1;go_enter Tryz.func16,Tryz.ntmps16;go_upto_region 1 with(fail);(try rw[hwb]);clear hwb;have x0:=HX0.out.cell 0 rfl;have x1:=HX0.out.cell 1 rfl;have x2:=HX0.out.cell 2 rfl;have x3:=HX0.out.cell 3 rfl;have x4:=HX0.out.cell 4 rfl;have y0:=HX1.out.cell 0 rfl;have y1:=HX1.out.cell 1 rfl;have y2:=HX1.out.cell 2 rfl;have y3:=HX1.out.cell 3 rfl;have y4:=HX1.out.cell 4 rfl;go_wp2_with fail;refine(Qc0 A A2 c c2 nb bo wb H1.out H3.out HNB.out hl1 HS1.out).mono ?_;rintro e w1 ⟨rfl,hb1⟩;have x5:=(HX0.out.to hb1).cell 5 rfl;have y5:=(HX1.out.to hb1).cell 5 rfl;have H2w:=Lh (H2.out.to hb1);have H4w:=Lh (H4.out.to hb1);have HB1:=Lh (HBA.out.trans (hb1.mono HBA.out.size));clear hb1 x0 x1 x2 x3 x4 y0 y1 y2 y3 y4;go_wp2_with fail;refine(Qc0 B B2 d d2 nn no w1 H2w.out H4w.out HNN.out hl2 HS2.out).mono ?_;rintro e w2 ⟨rfl,hb2⟩;have HB2:=Lh (HB1.out.trans (hb2.mono HB1.out.size));clear hb2 x5 y5;go_wp2_with fail;go_ret;exact⟨rfl,HB2.out⟩
theorem QdU (m h e:Int):∀(ts:List TextP) (vs:List Int) (c:CoreP),c∈coreV m h e vs ts→QaF c.body∧QaF c.notes
 |[],vs,c,hc=>by simp[coreV] at hc
 |t::ts,vs,c,hc=>by
  rw[coreV] at hc;rcases List.mem_append.1 hc with h1|h1
  ·obtain⟨p,hp,rfl⟩:=List.mem_map.1 h1;exact okPages_lines t.a t.b m h p hp
  ·exact QdU m h e ts vs.tail c h1
theorem pages_linesB (m h:Int)(l:List SectP):∀p∈Qac m h l,QaF p.body∧QaF p.notes:=by
 intro p hp;have hc:p.core∈coreS m h l:=by rw[←Qd3];exact List.mem_map_of_mem hp
 have hs:∀c∈coreS m h l,QaF c.body∧QaF c.notes:=by
  intro c hc;obtain⟨s,-,hs⟩:=List.mem_flatMap.1 hc;exact QdU m h s.entry s.texts s.vers c hs
 exact hs _ hc
end Go.Proofs.YtakaielemicpkaaGreatDoor
