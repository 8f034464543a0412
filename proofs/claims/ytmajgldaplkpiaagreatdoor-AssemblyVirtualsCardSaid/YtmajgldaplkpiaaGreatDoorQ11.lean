import Derived.Test.YtmajgldaplkpiaaGreatDoorStrs2
import Derived.Test.YtmajgldaplkpiaaGreatDoorQ10
namespace Go.Proofs.YtmajgldaplkpiaaGreatDoor
open Go.RowKit Go.Maps
set_option linter.unusedVariables false
set_option maxRecDepth 100000
set_option maxHeartbeats 2000000
structure ErrV (w:World):Prop where
 s:∃ ev,w.cell? ⟨2,0,none⟩=some ev/\(ev=.nilIface\/∃ te pe,ev=.iface te pe)
 r:∃ ev,w.cell? ⟨3,0,none⟩=some ev/\(ev=.nilIface\/∃ te pe,ev=.iface te pe)
theorem ErrV.fr {S:Nat->Prop}{w w':World}(h:ErrV w)(hf:Fr S w w')(h5:¬ S 2)(h6:¬ S 3):ErrV w':=by
 obtain⟨e5,c5,k5⟩:=h.s;obtain⟨e6,c6,k6⟩:=h.r;exact⟨⟨e5,hf.cell c5 h5,k5⟩,⟨e6,hf.cell c6 h6,k6⟩⟩
theorem ErrV.no {w w':World}(h:ErrV w)(hf:Fr No w w'):ErrV w':=h.fr hf id id
def zy (p d:Dev):ByteArray:=⟨(Lib.trimPrefix d.orig.data.toList (p.orig++⟨#[112]⟩).data.toList).toArray⟩
def partB (p d:Dev):Option Int:=match Lib.atoiAll (zy p d).data.toList with
 | .ok v=>if Lib.hasPrefix d.orig.data.toList (p.orig++⟨#[112]⟩).data.toList=true/\1<=v/\v<=16/\(Lib.decDigits v.toNat)=(zy p d).data.toList/\d.kind=2/\p.kind=2 then some v else none
 | _=>none
def zAD (o:Option Int)(e:Ending):Prop:=e=.returned (.tuple #[.int .i64 (o.getD 0),.bool o.isSome])
theorem zFG {p d:Dev}(h:d.orig.size<=32):(zy p d).size<=32:=by
 unfold zy Lib.trimPrefix;have h2:d.orig.data.toList.length<=32:=by rw[<-Lib.size_eq];exact h
 split
 ·simp only[ByteArray.size,List.size_toArray,List.length_drop];omega
 ·simp only[ByteArray.size,List.size_toArray];exact h2
def cutB (p d:Dev):Bool:=Lib.hasPrefix d.orig.data.toList (p.orig++⟨#[112]⟩).data.toList
theorem zKK (s q:ByteArray)(w:World):Calls Tryz.prog 80 #[.string s,.string q] w fun e w'=>e=.returned (.tuple #[.string ⟨(Lib.trimPrefix s.data.toList q.data.toList).toArray⟩,.bool (Lib.hasPrefix s.data.toList q.data.toList)])/\w=w':=
 (Tryz.strings_CutPrefix s q w).mono fun e w' h=>⟨h.1,h.2.symm⟩
theorem zGk (p d:Dev)(w:World):Calls Tryz.prog 80 #[.string d.orig,.string (p.orig++⟨#[112]⟩)] w fun e w'=>e=.returned (.tuple #[.string (zy p d),.bool (cutB p d)])/\w=w':=by
 unfold zy cutB;exact zKK _ _ w
def AtoiR (s:ByteArray)(e:Ending):Prop:=
 (∃ v,Lib.atoiAll s.data.toList=.ok v/\e=.returned (.tuple #[.int .i64 v,.nilIface]))\/((∀ v,Lib.atoiAll s.data.toList≠.ok v)/\∃ (k:Int) (te:TypeId) (N:Nat),e=.returned (.tuple #[.int .i64 k,.iface te (.pointer (some ⟨N,0,none⟩))]))
theorem zF7 (s:ByteArray)(w:World)(hs:s.size<=1000)(hE:ErrV w):Calls Tryz.prog 81 #[.string s] w fun e w'=>AtoiR s e/\Fr No w w':=by
 obtain⟨e5,c5,k5⟩:=hE.s;obtain⟨e6,c6,k6⟩:=hE.r;rcases h:Lib.atoiAll s.data.toList with v | _ | _
 ·refine(Tryz.strconv_Atoi_ok s (by omega) v h w).mono ?_;rintro e w' ⟨rfl,hw⟩;refine⟨.inl ⟨v,h,rfl⟩,?_⟩;rcases hw with rfl | ⟨t,rfl⟩
  ·exact Fr.refl _ _
  ·exact Fr.of_below_size (Lib.bytesWorld_below _ _ _)
 ·refine(Any.strconv_Atoi_syntax Tryz.laysC172 s (by omega) h e5 w c5 k5).mono ?_;rintro e w' ⟨N,rfl,_,_,hb⟩;exact⟨.inr ⟨fun v e=>(by rw[h]at e;cases e),0,_,N,rfl⟩,Fr.of_below_size hb⟩
 ·refine(Tryz.strconv_Atoi_range s (by omega) h e6 w c6 k6).mono ?_;rintro e w' ⟨N,rfl,_,_,hb⟩;exact⟨.inr ⟨fun v e=>(by rw[h]at e;cases e),_,_,N,rfl⟩,Fr.of_below_size hb⟩
theorem zHM {p d:Dev}(h:cutB p d=false):partB p d=none:=by
 unfold cutB at h;unfold partB;split
 ·rw[if_neg (by rw[h];simp)]
 ·rfl
theorem zCo {p d:Dev}(h:∀ v,Lib.atoiAll (zy p d).data.toList≠.ok v):partB p d=none:=by
 unfold partB;split
 ·rename_i v e;exact absurd e (h v)
 ·rfl
theorem zDt {p d:Dev}{v:Int}(h:Lib.atoiAll (zy p d).data.toList=.ok v):partB p d=if cutB p d=true/\1<=v/\v<=16/\(Lib.decDigits v.toNat)=(zy p d).data.toList/\d.kind=2/\p.kind=2 then some v else none:=by
 unfold partB cutB;rw[h]
theorem zEz (p d:Dev)(w:World)(hE:ErrV w)(hd:d.orig.size<=32)(hp:p.orig.size<=32):
  Calls Tryz.prog 44 #[.agg p.vals,.agg d.vals] w fun e w'=>zAD (partB p d) e/\Fr No w w':=by
 have hx:Fr No w ((w.alloc (.cells p.vals 34)).alloc (.cells d.vals 34)):=((Fr.refl _ _).alloc _).alloc _;have q2:=zL w (.cells p.vals 34) (.cells d.vals 34);have q3:=zP w (.cells p.vals 34) (.cells d.vals 34);have hds:=zFG (p:=p) hd;unfold Dev.vals at *
 go_enter Tryz.func44,Tryz.ntmps44
 go_upto_region 1 with(fail)
 generalize (w.alloc (.cells _ 34)).alloc (.cells _ 34)=W0 at *;have c23:W0.cell? ⟨w.heap.size,3,none⟩=some (.string p.orig):=zB q2 3;have c33:W0.cell? ⟨w.heap.size+1,3,none⟩=some (.string d.orig):=zB q3 3;have hpp:(p.orig++(⟨#[112]⟩:ByteArray)).size<=9223372036854775807:=by rw[ByteArray.size_append];show p.orig.size+1<=_;omega
 go_wp2_with fail
 refine(zGk p d _).mono ?_;rintro e w1 ⟨rfl,rfl⟩;have Hcut:Hid (cutB p d=false->partB p d=none):=fun h=>zHM h
 have Herr:Hid ((∀ v,Lib.atoiAll (zy p d).data.toList≠.ok v)->partB p d=none):=fun h=>zCo h
 have Hok:Hid (∀ v,Lib.atoiAll (zy p d).data.toList=.ok v->partB p d=if cutB p d=true/\1<=v/\v<=16/\(Lib.decDigits v.toNat)=(zy p d).data.toList/\d.kind=2/\p.kind=2 then some v else none):=fun v h=>zDt h
 generalize zy p d=dg at *;generalize cutB p d=cb at *
 go_wp2_with fail
 refine(zF7 dg _ (by omega) (hE.no hx)).mono ?_;rintro e w2 ⟨hR,hf2⟩;have q22:=hf2.heap q2 id;have q32:=hf2.heap q3 id;have Hf:=Lib.hid (hx.step hf2 (fun _ _ h=>h));clear c23 c33 q2 q3 hx hf2;have c37:w2.cell? ⟨w.heap.size+1,7,none⟩=some (.int .i64 d.kind):=zB q32 7;have c27:w2.cell? ⟨w.heap.size,7,none⟩=some (.int .i64 p.kind):=zB q22 7;cases cb with
 | false=>
  have Hr:Hid (partB p d=none):=Hcut.out rfl;rcases hR with⟨v,hv,rfl⟩ | ⟨hv,k,te,N,rfl⟩
  ·go_wp2_with fail
   go_ret2
   exact⟨by unfold zAD;rw[Hr.out];rfl,Hf.out⟩
  ·go_wp2_with fail
   go_ret2
   exact⟨by unfold zAD;rw[Hr.out];rfl,Hf.out⟩
 | true=>
  rcases hR with⟨v,hv,rfl⟩ | ⟨hv,k,te,N,rfl⟩
  ·have Hres:=Lib.hid (Hok.out v hv);clear hv;by_cases h1:v<1
   ·have Hr:Hid (partB p d=none):=by unfold Hid;rw[Hres.out,if_neg (by omega)]
    go_wp2_with fail
    go_ret2
    exact⟨by unfold zAD;rw[Hr.out];rfl,Hf.out⟩
   by_cases h16:16<v
   ·have Hr:Hid (partB p d=none):=by unfold Hid;rw[Hres.out,if_neg (by omega)]
    go_wp2_with fail
    go_ret2
    exact⟨by unfold zAD;rw[Hr.out];rfl,Hf.out⟩
   obtain⟨i,rfl⟩:=Int.eq_ofNat_of_zero_le (show 0<=v by omega)
   go_wp2_with fail
   refine(Tryz.strconv_Itoa_small i (by omega) _).mono ?_;rintro e w3 ⟨rfl,rfl⟩;obtain⟨it,hit⟩:∃ it,it=(⟨(Lib.decDigits i).toArray⟩:ByteArray):=⟨_,rfl⟩
   rw[<-hit];have Hit:Hid ((it.toList==dg.toList)=decide (Lib.decDigits i=dg.data.toList)):=by
    unfold Hid;rw[hit,Bool.eq_iff_iff,beq_iff_eq,decide_eq_true_iff,ByteArray.toList_eq,ByteArray.toList_eq]
   have hv2:((i:Int).toNat)=i:=by simp
   have Hv2:=Lib.hid hv2;clear hit hv2;rcases hie:(it.toList==dg.toList)with _ | _
   ·have Hr:Hid (partB p d=none):=by
     unfold Hid;rw[Hres.out,if_neg];rintro ⟨_,_,_,h,_⟩;rw[Hv2.out]at h;have:=Hit.out;rw[hie,decide_eq_true h]at this;cases this
    go_wp2_with fail
    go_ret2
    exact⟨by unfold zAD;rw[Hr.out];rfl,Hf.out⟩
   have Hdd:Hid (Lib.decDigits i=dg.data.toList):=by
    unfold Hid;have:=Hit.out;rw[hie]at this;exact of_decide_eq_true this.symm
   by_cases hk1:d.kind=2
   ·have hk1':(d.kind != 2)=false:=by simpa using hk1
    by_cases hk2:p.kind=2
    ·have hk2':(p.kind != 2)=false:=by simpa using hk2
     have Hr:Hid (partB p d=some (i:Int)):=by unfold Hid;rw[Hres.out,if_pos ⟨by trivial,by omega,by omega,by rw[Hv2.out];exact Hdd.out,hk1,hk2⟩]
     go_wp2_with fail
     go_ret2
     exact⟨by unfold zAD;rw[Hr.out];rfl,Hf.out⟩
    ·have hk2':(p.kind != 2)=true:=by simpa using hk2
     have Hr:Hid (partB p d=none):=by unfold Hid;rw[Hres.out,if_neg (fun h=>hk2 h.2.2.2.2.2)]
     go_wp2_with fail
     go_ret2
     exact⟨by unfold zAD;rw[Hr.out];rfl,Hf.out⟩
   ·have hk1':(d.kind != 2)=true:=by simpa using hk1
    have Hr:Hid (partB p d=none):=by unfold Hid;rw[Hres.out,if_neg (fun h=>hk1 h.2.2.2.2.1)]
    go_wp2_with fail
    go_ret2
    exact⟨by unfold zAD;rw[Hr.out];rfl,Hf.out⟩
  ·have Hr:Hid (partB p d=none):=Herr.out hv;clear hv
   go_wp2_with fail
   go_ret2
   exact⟨by unfold zAD;rw[Hr.out];rfl,Hf.out⟩
def partOf (ds:List Dev)(n:Int):Option Int:=match look ds n with
 | none=>none
 | some d=>match look ds d.parent with
  | none=>none
  | some p=>partB p d
theorem zKj (a:Option Addr)(cap:Nat)(ds:List Dev)(base:Nat)(n:Int)(w:World)(hl:Tr w base a cap ds)(hE:ErrV w):
  Calls Tryz.prog 17 #[.agg #[.slice a ds.length cap],.int .i64 n] w fun e w'=>zAD (partOf ds n) e/\Fr No w w':=by
 have hT:=hl.wf.1;have hx:Fr No w (w.alloc (.cells #[.slice a ds.length cap] 28)):=(Fr.refl _ _).alloc _;have q2:=zD w (.cells #[.slice a ds.length cap] 28)
 go_enter Tryz.func17,Tryz.ntmps17
 go_wp2_with fail
 refine(zA9 a cap ds base n _ (hl.no hx)).mono ?_;rintro e w1 ⟨hF,hf1⟩;have q21:=hf1.heap q2 id;have hf1x:=hx.step hf1 (fun _ _ h=>h);clear q2 hx hf1;rcases hF with⟨hlk,rfl⟩ | ⟨d,aa',ac',la,hlk,rfl,-⟩
 ·have Hr:Hid (partOf ds n=none):=by unfold Hid partOf;rw[hlk]
  have hy:Fr No w1 (w1.alloc (.cells Dev.zero.vals 34)):=(Fr.refl _ _).alloc _;have q22:=hy.heap q21 id;have hfy:=hf1x.step hy (fun _ _ h=>h);have c2:(w1.alloc (.cells Dev.zero.vals 34)).cell? ⟨w.heap.size,0,none⟩=some (.slice a ds.length cap):=zB q22 0;unfold Dev.vals Dev.zero at *;clear hlk
  go_wp2_with fail
  refine(zA9 a cap ds base 0 _ (hl.no hfy)).mono ?_;rintro e w2 ⟨hF,hf2⟩;rcases hF with⟨hlk,rfl⟩ | ⟨d,aa',ac',la,hlk,rfl,-⟩
  ·have Hf:=Lib.hid ((hfy.step hf2 (fun _ _ h=>h)).alloc (.cells Dev.zero.vals 34));unfold Dev.vals Dev.zero at *;clear hf2 hfy hy hlk
   go_wp2_with fail
   go_ret2
   exact⟨by unfold zAD;rw[Hr.out];rfl,Hf.out⟩
  ·rw[hT.zero]at hlk;cases hlk
 ·have hd:=zAE hlk;have hy:Fr No w1 (w1.alloc (.cells ({ d with aa:=aa',ac:=ac' }:Dev).vals 34)):=(Fr.refl _ _).alloc _;have q22:=hy.heap q21 id;have q6:=zD w1 (.cells ({ d with aa:=aa',ac:=ac' }:Dev).vals 34);have hfy:=hf1x.step hy (fun _ _ h=>h);have c2:(w1.alloc (.cells ({ d with aa:=aa',ac:=ac' }:Dev).vals 34)).cell? ⟨w.heap.size,0,none⟩=some (.slice a ds.length cap):=zB q22 0;have Hlk:=Lib.hid hlk;have Hd:=Lib.hid hd.1;unfold Dev.vals at *;clear hlk hd
  go_wp2_with fail
  refine(zA9 a cap ds base d.parent _ (hl.no hfy)).mono ?_;rintro e w2 ⟨hF,hf2⟩;rcases hF with⟨hlk,rfl⟩ | ⟨p,pa',pc',lp,hlk,rfl,-⟩
  ·have Hr:Hid (partOf ds n=none):=by unfold Hid partOf;rw[Hlk.out];simp only;rw[hlk]
   have Hf:=Lib.hid ((hfy.step hf2 (fun _ _ h=>h)).alloc (.cells Dev.zero.vals 34));unfold Dev.vals Dev.zero at *;clear hf2 hfy hy hlk
   go_wp2_with fail
   go_ret2
   exact⟨by unfold zAD;rw[Hr.out];rfl,Hf.out⟩
  ·have Hr:Hid (partOf ds n=partB p d):=by unfold Hid partOf;rw[Hlk.out];simp only;rw[hlk]
   have hpm:=(zAE hlk).1;have hz:Fr No w2 (w2.alloc (.cells ({ p with aa:=pa',ac:=pc' }:Dev).vals 34)):=(Fr.refl _ _).alloc _;have q62:=hz.heap (hf2.heap q6 id) id;have hfz:=(hfy.step hf2 (fun _ _ h=>h)).step hz (fun _ _ h=>h);obtain⟨d0,d1,d2,d3,d4,d5,d6,d7,d8,d9⟩:=cl10 q62;have hP:=zEz ({ p with aa:=pa',ac:=pc' }:Dev) ({ d with aa:=aa',ac:=ac' }:Dev) _ (hE.no hfz) (hT.sz d Hd.out) (hT.sz p hpm);have e:partB ({ p with aa:=pa',ac:=pc' }:Dev) ({ d with aa:=aa',ac:=ac' }:Dev)=partB p d:=rfl;rw[e]at hP;have HP:=Lib.hid hP;have Hfz:=Lib.hid hfz;unfold Dev.vals at *;clear hP e hf2 hfy hy hz hlk q62 q6 hf1x;generalize partB p d=res at *
   go_wp2_with fail
   refine HP.out.mono ?_;rintro e w3 ⟨he,hf3⟩;unfold zAD at he;subst he;have Hf:=Lib.hid (Hfz.out.step hf3 (fun _ _ h=>h));clear hf3
   go_wp2_with fail
   go_ret2
   exact⟨by unfold zAD;rw[Hr.out];rfl,Hf.out⟩
def zr : ByteArray:=⟨#[99,111,110,116,101,110,116]⟩
theorem zK1 (a:Option Addr)(cap:Nat)(l:List (ByteArray×ByteArray))(key:ByteArray)(w:World)(hA:Atts w a cap l):
  Calls Tryz.prog 147 #[.slice a l.length cap,.string key] w fun e w'=>GotS (getP l key) e/\Fr No w w':=by
 have hm:=hA.lenmax
 go_enter Tryz.func147,Tryz.ntmps147
 go_wp2_with fail
 go_loopw [10] (fun i wr=>∃ k:Nat,k<=l.length/\i=.int .i64 k/\Hid (∀ x∈l.take k,isKey key x=false)/\Fr No w wr) (fun i _=>l.length-(intOf i).toNat)
 case atStart=>exact⟨0,by omega,rfl,by unfold Hid;simp,Fr.refl _ _⟩
 case round=>
  obtain⟨k,hk,rfl,hno,hfr⟩:=hrel;by_cases hlt:k<l.length
  ·have hlt':(k:Int)<l.length:=by omega
   obtain⟨bb,off,x,y,ha,hxy,-,-,c0,c1⟩:=(hA.no hfr (fun _=>id)).at hlt;have Hxy:=Lib.hid hxy;clear hxy;rcases he:(x.toList==key.toList)with _ | _
   ·go_wp2_with fail
    go_roundw
    case rel=>
     refine⟨k+1,by omega,by go_num,?_,hfr.alloc _⟩;unfold Hid;intro z hz;rw[List.take_add_one,Hxy.out]at hz;rcases List.mem_append.1 hz with h | h
     ·exact hno.out z h
     ·simp at h;subst h;exact he
    case measure=>simp[intOf];omega
   ·have Hg:Hid (getP l key=y):=by unfold Hid getP;rw[zBF (isKey key) _ _ _ Hxy.out he hno.out];rfl
    go_wp2_with fail
    go_ret2
    exact⟨⟨true,by rw[Hg.out];rfl⟩,hfr.alloc _⟩
  ·obtain rfl:k=l.length:=by omega
   have h:=hno.out;rw[List.take_of_length_le (by omega)]at h;have Hg:Hid (getP l key=⟨#[]⟩):=by unfold Hid getP;rw[zFF _ _ h];rfl
   go_wp2_with fail
   go_ret2
   exact⟨⟨false,by rw[Hg.out];rfl⟩,hfr⟩
theorem zJS (d:Dev)(l:List (ByteArray×ByteArray))(w:World)(hA:Atts w d.aa d.ac l)(han:d.an=l.length):
  Calls Tryz.prog 111 #[.agg d.vals] w fun e w'=>e=.returned (.string (getP l zr))/\Fr No w w':=by
 obtain⟨W0,hW0⟩:∃ W0,W0=w.alloc (.cells d.vals 34):=⟨_,rfl⟩
 have hx:Fr No w W0:=by rw[hW0];exact(Fr.refl _ _).alloc _
 have q0:W0.heap[w.heap.size]?=some (.cells d.vals 34):=by rw[hW0];exact zD _ _
 have hg:=zK1 d.aa d.ac l zr W0 (hA.no hx (fun _=>id));rw[<-han]at hg;have c9:=(DevB.of q0).c9;unfold Dev.vals at hW0 ⊢;unfold zr at hg;clear q0 han hA;have Hc:Hid (getP l zr=getP l ⟨#[99,111,110,116,101,110,116]⟩):=rfl;rw[Hc.out];generalize getP l ⟨#[99,111,110,116,101,110,116]⟩=g at *
 go_enter Tryz.func111,Tryz.ntmps111
 go_upto_region 1 with(fail)
 rw[<-hW0];clear hW0
 go_wp2_with fail
 refine hg.mono ?_;rintro e w1 ⟨⟨b,rfl⟩,hf1⟩;clear hg
 go_wp2_with fail
 go_ret;exact⟨rfl,hx.step hf1 (fun _ _ h=>h)⟩
def preB (s:ByteArray):Bool:=Lib.hasPrefix s.data.toList [109,100,45]||Lib.hasPrefix s.data.toList [111,112,101,110,45]||Lib.hasPrefix s.data.toList [108,118,45]
def virB (ds:List Dev)(n:Int):Bool:=match look ds n with
 | none=>false
 | some d=>(partOf ds n).isSome||(d.parent==0&&preB d.orig)
theorem zEq (bt:Nat)(d:Dev)(s:ByteArray)(w:World)(hb:w.heap[bt]?=some (.cells d.vals 34)):
  Calls Tryz.prog 19 #[.string s,.pointer (some ⟨bt,0,none⟩)] w fun e w'=>e=.returned (.bool (Lib.hasPrefix d.orig.data.toList s.data.toList))/\w=w':=by
 have c3:=(DevB.of hb).c3;clear hb
 go_enter Tryz.func19,Tryz.ntmps19
 go_wp2_with fail
 refine(Tryz.strings_HasPrefix d.orig s _).mono ?_;rintro e w1 ⟨rfl,rfl⟩
 go_wp2_with fail
 go_ret;exact⟨rfl,rfl⟩
theorem zJZ (bt b:Nat)(d:Dev)(w:World)(hb:w.heap[bt]?=some (.cells d.vals 34))(hs:w.heap[b]?=some (.cells #[.string ⟨#[109,100,45]⟩,.string ⟨#[111,112,101,110,45]⟩,.string ⟨#[108,118,45]⟩] 9)):
  Calls Tryz.prog 18 #[.slice (some ⟨b,0,none⟩) 3 3,.func (.func 19) #[] #[.pointer (some ⟨bt,0,none⟩)]] w fun e w'=>e=.returned (.bool (preB d.orig))/\Fr No w w':=by
 obtain⟨e0,e1,e2⟩:=cl3 hs;have H0:=Lib.hid (zEq bt d ⟨#[109,100,45]⟩ w hb);have H1:=Lib.hid (zEq bt d ⟨#[111,112,101,110,45]⟩ w hb);have H2:=Lib.hid (zEq bt d ⟨#[108,118,45]⟩ w hb);have Hp:Hid (preB d.orig=(Lib.hasPrefix d.orig.data.toList [109,100,45]||Lib.hasPrefix d.orig.data.toList [111,112,101,110,45]||Lib.hasPrefix d.orig.data.toList [108,118,45])):=rfl;generalize preB d.orig=pb at *;have H0':Hid (Calls Tryz.prog 19 #[.string ⟨#[109,100,45]⟩,.pointer (some ⟨bt,0,none⟩)] w fun e w'=>e=.returned (.bool (Lib.hasPrefix d.orig.data.toList [109,100,45]))/\w=w'):=H0.out;have H1':Hid (Calls Tryz.prog 19 #[.string ⟨#[111,112,101,110,45]⟩,.pointer (some ⟨bt,0,none⟩)] w fun e w'=>e=.returned (.bool (Lib.hasPrefix d.orig.data.toList [111,112,101,110,45]))/\w=w'):=H1.out;have H2':Hid (Calls Tryz.prog 19 #[.string ⟨#[108,118,45]⟩,.pointer (some ⟨bt,0,none⟩)] w fun e w'=>e=.returned (.bool (Lib.hasPrefix d.orig.data.toList [108,118,45]))/\w=w'):=H2.out;clear H0 H1 H2 hb hs;generalize Lib.hasPrefix d.orig.data.toList [109,100,45]=p0 at *;generalize Lib.hasPrefix d.orig.data.toList [111,112,101,110,45]=p1 at *;generalize Lib.hasPrefix d.orig.data.toList [108,118,45]=p2 at *;refine(show Calls Tryz.prog 18 _ _ (fun e w'=>e=.returned (.bool pb)/\w'=w)from ?_).mono (fun e w' h=>⟨h.1,by rw[h.2];exact Fr.refl _ _⟩);have hidx:Calls Tryz.prog 45 #[.slice (some ⟨b,0,none⟩) 3 3,.func (.func 19) #[] #[.pointer (some ⟨bt,0,none⟩)]] w fun e w'=>(∃ r:Int,e=.returned (.int .i64 r)/\decide (0<=r)=pb)/\w'=w:=by
  go_enter Tryz.func45,Tryz.ntmps45
  go_wp2_with fail
  go_loopw [8] (fun i wr=>wr=w/\((i=.int .i64 0)\/(i=.int .i64 1/\p0=false)\/(i=.int .i64 2/\p0=false/\p1=false)\/(i=.int .i64 3/\p0=false/\p1=false/\p2=false))) (fun i _=>3-(intOf i).toNat)
  case atStart=>exact⟨rfl,.inl rfl⟩
  case round=>
   obtain⟨rfl,h⟩:=hrel;rcases h with rfl | ⟨rfl,h0⟩ | ⟨rfl,h0,h1⟩ | ⟨rfl,h0,h1,h2⟩
   ·go_wp2_with fail
    refine H0'.out.mono ?_;rintro e w1 ⟨rfl,rfl⟩;cases hq:p0 with
    | true=>
     have Hv:Hid (pb=true):=by unfold Hid;rw[Hp.out,hq];rfl
     clear hq
     go_wp2_with fail
     go_ret;exact⟨⟨0,rfl,by rw[Hv.out];rfl⟩,rfl⟩
    | false=>
     have Hq:=Lib.hid hq;clear hq
     go_wp2_with fail
     go_roundw
     case rel=>exact⟨trivial,.inr (.inl ⟨rfl,Hq.out⟩)⟩
     case measure=>simp[intOf]
   ·have Hh0:=Lib.hid h0;clear h0
    go_wp2_with fail
    refine H1'.out.mono ?_;rintro e w1 ⟨rfl,rfl⟩;cases hq:p1 with
    | true=>
     have Hv:Hid (pb=true):=by unfold Hid;rw[Hp.out,hq];simp
     clear hq
     go_wp2_with fail
     go_ret;exact⟨⟨1,rfl,by rw[Hv.out];rfl⟩,rfl⟩
    | false=>
     have Hq:=Lib.hid hq;clear hq
     go_wp2_with fail
     go_roundw
     case rel=>exact⟨trivial,.inr (.inr (.inl ⟨rfl,Hh0.out,Hq.out⟩))⟩
     case measure=>simp[intOf]
   ·have Hh0:=Lib.hid (And.intro h0 h1);clear h0 h1
    go_wp2_with fail
    refine H2'.out.mono ?_;rintro e w1 ⟨rfl,rfl⟩;cases hq:p2 with
    | true=>
     have Hv:Hid (pb=true):=by unfold Hid;rw[Hp.out,hq];simp
     clear hq
     go_wp2_with fail
     go_ret;exact⟨⟨2,rfl,by rw[Hv.out];rfl⟩,rfl⟩
    | false=>
     have Hq:=Lib.hid hq;clear hq
     go_wp2_with fail
     go_roundw
     case rel=>exact⟨trivial,.inr (.inr (.inr ⟨rfl,Hh0.out.1,Hh0.out.2,Hq.out⟩))⟩
     case measure=>simp[intOf]
   ·have Hv:Hid (pb=false):=by unfold Hid;rw[Hp.out,h0,h1,h2];rfl
    clear h0 h1 h2
    go_wp2_with fail
    go_ret;exact⟨⟨-1,rfl,by rw[Hv.out];rfl⟩,rfl⟩
 clear e0 e1 e2
 go_enter Tryz.func18,Tryz.ntmps18
 go_wp2_with fail
 refine hidx.mono ?_;rintro e w1 ⟨⟨r,rfl,hr⟩,rfl⟩;have Hr:=Lib.hid hr;clear hr hidx
 go_wp2_with fail
 go_ret;exact⟨zK Hr.out,rfl⟩
theorem zB5 (a:Option Addr)(cap:Nat)(ds:List Dev)(base:Nat)(n:Int)(w:World)(hl:Tr w base a cap ds)(hE:ErrV w):
  Calls Tryz.prog 6 #[.agg #[.slice a ds.length cap],.int .i64 n] w fun e w'=>e=.returned (.bool (virB ds n))/\Fr No w w':=by
 obtain⟨W0,hW0⟩:∃ W0,W0=w.alloc (.cells #[.slice a ds.length cap] 28):=⟨_,rfl⟩
 have hx:Fr No w W0:=by rw[hW0];exact(Fr.refl _ _).alloc _
 have q0:W0.heap[w.heap.size]?=some (.cells #[.slice a ds.length cap] 28):=by rw[hW0];exact zD _ _
 have t0:W0.cell? ⟨w.heap.size,0,none⟩=some (.slice a ds.length cap):=zB q0 0;have hfind:=zA9 a cap ds base n W0 (hl.no hx);have Hpart:=Lib.hid (fun (W:World) (hf:Fr No w W)=>zKj a cap ds base n W (hl.no hf) (hE.no hf));obtain⟨rb,hrb⟩:∃ rb,rb=virB ds n:=⟨_,rfl⟩
 rw[<-hrb];have Hrb:=Lib.hid hrb;clear hrb hl hE
 go_enter Tryz.func6,Tryz.ntmps6
 go_upto_region 1 with(fail)
 rw[<-hW0];clear hW0
 go_wp2_with fail
 refine hfind.mono ?_;rintro e w1 ⟨hF,hf1⟩;have q1:=hf1.heap q0 id;have x1:=hx.step hf1 (fun _ _ h=>h);clear t0 q0 hfind;rcases hF with⟨hlk,rfl⟩ | ⟨d,aa',ac',la,hlk,rfl,-⟩
 ·have Hv:Hid (rb=false):=by unfold Hid;rw[Hrb.out];unfold virB;rw[hlk]
  have hxx:Fr No w (w1.alloc (.cells (Dev.vals Dev.zero) 34)):=x1.alloc _;have Hx:=Lib.hid hxx;clear hxx hlk;unfold Dev.vals Dev.zero at *
  go_wp2_with fail
  go_ret;exact⟨zK Hv.out.symm,Hx.out⟩
 ·have Hv:Hid (rb=((partOf ds n).isSome||(d.parent==0&&preB d.orig))):=by unfold Hid;rw[Hrb.out];unfold virB;rw[hlk]
  obtain⟨W2,hW2⟩:∃ W2,W2=w1.alloc (.cells (Dev.vals { d with aa:=aa',ac:=ac' }) 34):=⟨_,rfl⟩
  have f2:Fr No w1 W2:=by rw[hW2];exact(Fr.refl _ _).alloc _
  have b2:W2.heap[w1.heap.size]?=some (.cells (Dev.vals { d with aa:=aa',ac:=ac' }) 34):=by rw[hW2];exact zD _ _
  have q2:=f2.heap q1 id;have x2:=x1.step f2 (fun _ _ h=>h);have t0:W2.cell? ⟨w.heap.size,0,none⟩=some (.slice a ds.length cap):=zB q2 0;have hpart:=Hpart.out W2 x2;clear hlk q1;unfold Dev.vals at hW2 ⊢
  go_upto_region 4 with(fail)
  rw[<-hW2];clear hW2
  go_wp2_with fail
  refine hpart.mono ?_;rintro e w3 ⟨hP,hf3⟩;unfold zAD at hP;subst hP;have b3:=hf3.heap b2 id;have x3:=x2.step hf3 (fun _ _ h=>h);clear t0 hpart b2 q2;obtain⟨c0,c1,c2,c3,c4,c5,c6,c7,c8,c9⟩:=DevB.of b3;simp only at c1;generalize (partOf ds n).getD 0=pv at *;rcases hp:(partOf ds n).isSome with _ | _
  ·have Hv2:Hid (rb=(d.parent==0&&preB d.orig)):=by unfold Hid;rw[Hv.out,hp];rfl
   rcases hq:(d.parent==0)with _ | _
   ·have Hv3:Hid (rb=false):=by unfold Hid;rw[Hv2.out,hq];rfl
    go_wp2_with fail
    go_ret;exact⟨zK Hv3.out.symm,x3⟩
   ·have Hv3:Hid (rb=preB d.orig):=by unfold Hid;rw[Hv2.out,hq];rfl
    obtain⟨W4,hW4⟩:∃ W4,W4=w3.alloc (.cells #[.string ⟨#[109,100,45]⟩,.string ⟨#[111,112,101,110,45]⟩,.string ⟨#[108,118,45]⟩] 9):=⟨_,rfl⟩
    have f4:Fr No w3 W4:=by rw[hW4];exact(Fr.refl _ _).alloc _
    have b4:W4.heap[w3.heap.size]?=some (.cells #[.string ⟨#[109,100,45]⟩,.string ⟨#[111,112,101,110,45]⟩,.string ⟨#[108,118,45]⟩] 9):=by rw[hW4];exact zD _ _
    have hany:=zJZ w1.heap.size w3.heap.size { d with aa:=aa',ac:=ac' } W4 (f4.heap b3 id) b4;clear b3
    go_wp2_with fail
    rw[<-hW4];clear hW4;refine hany.mono ?_;rintro e w5 ⟨rfl,hf5⟩;have Hx:=Lib.hid ((x3.step f4 (fun _ _ h=>h)).step hf5 (fun _ _ h=>h));clear hany f4 hf5 b4
    go_wp2_with fail
    go_ret;exact⟨zK Hv3.out.symm,Hx.out⟩
  ·have Hv3:Hid (rb=true):=by unfold Hid;rw[Hv.out,hp];rfl
   go_wp2_with fail
   go_ret;exact⟨zK Hv3.out.symm,x3⟩
def ignB : ByteArray:=⟨#[83,84,79,82,65,71,69,95,73,71,78,79,82,69]⟩
def cntB (ds:List Dev)(L:List Rec)(n:Int):Bool:=match look ds n with
 | none=>false
 | some d=>match L.find? (Rec.is n (pathOf (origin ds n)))with
  | none=>false
  | some r=>d.kind==2&&!((getP r.props ignB).toList==[49])
theorem zGD (a ra:Option Addr)(cap rc:Nat)(ds:List Dev)(L:List Rec)(base:Nat)(n:Int)(w:World)(hl:Tr w base a cap ds)(hn:ds.length<=1000)(hx:(Lit.int .i64 n).wf=true)(hr:Recs w ra rc L):
  Calls Tryz.prog 8 #[.agg #[.slice a ds.length cap],.slice ra L.length rc,.int .i64 n] w fun e w'=>e=.returned (.bool (cntB ds L n))/\Fr No w w':=by
 obtain⟨W0,hW0⟩:∃ W0,W0=w.alloc (.cells #[.slice a ds.length cap] 28):=⟨_,rfl⟩
 have x0:Fr No w W0:=by rw[hW0];exact(Fr.refl _ _).alloc _
 have q0:W0.heap[w.heap.size]?=some (.cells #[.slice a ds.length cap] 28):=by rw[hW0];exact zD _ _
 have t0:W0.cell? ⟨w.heap.size,0,none⟩=some (.slice a ds.length cap):=zB q0 0;have hfind:=zA9 a cap ds base n W0 (hl.no x0);have Horg:=Lib.hid (fun (W:World) (hf:Fr No w W)=>zBb a cap ds n W (hl.dv.no hf (fun _=>id)) hl.wf.ok hn hx);have Hrec:=Lib.hid (fun (W:World) (hf:Fr No w W) (p:ByteArray)=>zIf ra rc L n p W (hr.no hf (fun _=>id)));have Hrr:=Lib.hid (fun (W:World) (hf:Fr No w W)=>hr.no hf (fun _=>id));have hlm:=hr.lenmax;obtain⟨rb,hrb⟩:∃ rb,rb=cntB ds L n:=⟨_,rfl⟩
 rw[<-hrb];have Hrb:=Lib.hid hrb;clear hrb hl hr hx
 go_enter Tryz.func8,Tryz.ntmps8
 go_upto_region 1 with(fail)
 rw[<-hW0];clear hW0
 go_wp2_with fail
 refine hfind.mono ?_;rintro e w1 ⟨hF,hf1⟩;clear t0 hfind;obtain⟨dv,ok,rfl,hdv⟩:∃ dv ok,e=.returned (.tuple #[.agg (Dev.vals dv),.bool ok])/\((look ds n=none/\ok=false)\/∃ d,look ds n=some d/\ok=true/\dv.kind=d.kind):=by
  rcases hF with⟨hlk,rfl⟩ | ⟨d,aa',ac',la,hlk,rfl,-⟩
  ·exact⟨Dev.zero,false,rfl,.inl ⟨hlk,rfl⟩⟩
  ·exact⟨{ d with aa:=aa',ac:=ac' },true,rfl,.inr ⟨d,hlk,rfl,rfl⟩⟩
 have Hdv:=Lib.hid hdv;clear hdv hF;obtain⟨W2,hW2⟩:∃ W2,W2=w1.alloc (.cells (Dev.vals dv) 34):=⟨_,rfl⟩
 have f2:Fr No w1 W2:=by rw[hW2];exact(Fr.refl _ _).alloc _
 have b2:W2.heap[w1.heap.size]?=some (.cells (Dev.vals dv) 34):=by rw[hW2];exact zD _ _
 have q2:=f2.heap (hf1.heap q0 id) id;have x2:=(x0.step hf1 (fun _ _ h=>h)).step f2 (fun _ _ h=>h);have t0:W2.cell? ⟨w.heap.size,0,none⟩=some (.slice a ds.length cap):=zB q2 0;have horg:=Horg.out W2 x2;have Hpl:Hid (plc ds n=((look ds n).map fun _=>pathOf (origin ds n)).getD ⟨#[]⟩):=rfl;rw[<-Hpl.out]at horg;clear q0 hf1 f2;unfold Dev.vals at hW2 ⊢
 go_upto_region 2 with(fail)
 rw[<-hW2];clear hW2
 go_wp2_with fail
 refine horg.mono ?_;rintro e w3 ⟨rfl,hf3⟩;have b3:=hf3.heap b2 id;have x3:=x2.step hf3 (fun _ _ h=>h);have hrec:=Hrec.out w3 x3 (plc ds n);clear t0 horg b2 q2;generalize (look ds n).isSome=lks at *;obtain⟨P,hP⟩:∃ P,P=plc ds n:=⟨_,rfl⟩
 rw[<-hP]at hrec ⊢;have HP:=Lib.hid hP;clear hP
 go_wp2_with fail
 refine hrec.mono ?_;rintro e w4 ⟨hR,hf4⟩;have b4:=hf4.heap b3 id;have x4:=x3.step hf4 (fun _ _ h=>h);clear hrec b3;obtain⟨r,kn,rfl,hr4,hkn⟩:∃ r kn,e=.returned (.tuple #[.agg (Rec.vals r),.bool kn])/\RecOk w4 r/\((L.find? (Rec.is n P)=none/\kn=false)\/(L.find? (Rec.is n P)=some r/\kn=true)):=by
  cases hq:L.find? (Rec.is n P)with
  | none=>rw[hq]at hR;exact⟨Rec.zero,false,hR,RecOk.zero w4,.inl ⟨rfl,rfl⟩⟩
  | some r=>rw[hq]at hR;exact⟨r,true,hR,((Hrr.out w4 x4).ok r (List.mem_of_find?_eq_some hq)),.inr ⟨rfl,rfl⟩⟩
 obtain⟨W5,hW5⟩:∃ W5,W5=w4.alloc (.cells (Rec.vals r) 46):=⟨_,rfl⟩
 have f5:Fr No w4 W5:=by rw[hW5];exact(Fr.refl _ _).alloc _
 have r5:W5.heap[w4.heap.size]?=some (.cells (Rec.vals r) 46):=by rw[hW5];exact zD _ _
 have b5:=f5.heap b4 id;have x5:=x4.step f5 (fun _ _ h=>h);have hget:=zGS r ignB W5 (hr4.no f5 (fun _=>id));have Hkn:=Lib.hid hkn;clear hR hkn hr4 b4 hf4 f5 hf3;unfold Rec.vals at hW5 hget ⊢;unfold ignB at hget;have Hg:Hid (getP r.props ignB=getP r.props ⟨#[83,84,79,82,65,71,69,95,73,71,78,79,82,69]⟩):=rfl;rw[<-Hg.out]at hget
 go_upto_region 4 with(fail)
 rw[<-hW5];clear hW5;obtain⟨c0,c1,c2,c3,c4,c5,c6,c7,c8,c9⟩:=DevB.of b5;obtain⟨e0,e1,e2,e3,e4,e5,e6,e7,e8,e9,e10,e11⟩:=cl12 r5;have Hrb2:Hid (rb=(ok&&kn&&(dv.kind==2)&&!((getP r.props ignB).toList==[49]))):=by
  unfold Hid;rw[Hrb.out];unfold cntB;rcases Hdv.out with⟨h1,h2⟩ | ⟨d,h1,h2,h3⟩
  ·rw[h1,h2];rfl
  ·have hp:P=pathOf (origin ds n):=by rw[HP.out];unfold plc;rw[h1];rfl
   rw[h1,h2,<-hp];simp only;rcases Hkn.out with⟨k1,k2⟩ | ⟨k1,k2⟩
   ·rw[k1,k2];rfl
   ·rw[k1,k2,h3];simp
 generalize getP r.props ignB=g at *;clear b5 r5;cases ok with
 | false=>
  have Hv:Hid (rb=false):=by unfold Hid;rw[Hrb2.out];rfl
  go_wp2_with fail
  go_ret;exact⟨zK Hv.out.symm,x5⟩
 | true=>
  cases kn with
  | false=>
   have Hv:Hid (rb=false):=by unfold Hid;rw[Hrb2.out];rfl
   go_wp2_with fail
   go_ret;exact⟨zK Hv.out.symm,x5⟩
  | true=>
   rcases hk:(dv.kind==2)with _ | _
   ·have Hv:Hid (rb=false):=by unfold Hid;rw[Hrb2.out,hk];rfl
    go_wp2_with fail
    go_ret;exact⟨zK Hv.out.symm,x5⟩
   ·have Hv:Hid (rb=!(g.toList==[49])):=by unfold Hid;rw[Hrb2.out,hk];rfl
    go_wp2_with fail
    refine hget.mono ?_;rintro e w6 ⟨rfl,hf6⟩
    go_wp2_with fail
    go_ret;exact⟨zK Hv.out.symm,x5.step hf6 (fun _ _ h=>h)⟩
theorem zFP (a:Option Addr)(cap:Nat)(ds:List Dev)(d:Dev)(w:World)(hl:Devs w a cap ds)(hT:TreeOk ds)(hn:ds.length<=1000)(hx:(Lit.int .i64 d.parent).wf=true):
  Calls Tryz.prog 109 #[.agg #[.slice a ds.length cap],.agg d.vals] w fun e w'=>e=.returned (.agg #[.string (plc ds d.parent),.string d.orig])/\Fr No w w':=by
 obtain⟨W0,hW0⟩:∃ W0,W0=((w.alloc (.cells #[.slice a ds.length cap] 28)).alloc (.cells d.vals 34)).alloc (.cells #[.string ⟨#[]⟩,.string ⟨#[]⟩] 132):=⟨_,rfl⟩
 have fx:Fr No ((w.alloc (.cells #[.slice a ds.length cap] 28)).alloc (.cells d.vals 34)) W0:=by rw[hW0];exact(Fr.refl _ _).alloc _
 have hx0:Fr No w W0:=by rw[hW0];exact(((Fr.refl _ _).alloc _).alloc _).alloc _
 have q0:=fx.heap (zL w (.cells #[.slice a ds.length cap] 28) (.cells d.vals 34)) id;have q1:=fx.heap (zP w (.cells #[.slice a ds.length cap] 28) (.cells d.vals 34)) id;have q2:W0.heap[w.heap.size+1+1]?=some (.cells #[.string ⟨#[]⟩,.string ⟨#[]⟩] 132):=by
  have:=zD ((w.alloc (.cells #[.slice a ds.length cap] 28)).alloc (.cells d.vals 34)) (.cells #[.string ⟨#[]⟩,.string ⟨#[]⟩] 132);rw[World.size_alloc,World.size_alloc]at this;rw[hW0];exact this
 have t0:W0.cell? ⟨w.heap.size,0,none⟩=some (.slice a ds.length cap):=zB q0 0;have c1:=(DevB.of q1).c1;have horg:=zBb a cap ds d.parent W0 (hl.no hx0 (fun _=>id)) hT hn hx;have Hpl:Hid (plc ds d.parent=((look ds d.parent).map fun _=>pathOf (origin ds d.parent)).getD ⟨#[]⟩):=rfl;rw[<-Hpl.out]at horg;generalize plc ds d.parent=P at *;generalize (look ds d.parent).isSome=lks at *;clear fx hl hT hx;unfold Dev.vals at hW0 ⊢
 go_enter Tryz.func109,Tryz.ntmps109
 go_upto_region 1 with(fail)
 rw[<-hW0];clear hW0
 go_wp2_with fail
 refine horg.mono ?_;rintro e w1 ⟨rfl,hf1⟩;have r1:=hf1.heap q1 id;have r2:=hf1.heap q2 id;have c3:=(DevB.of r1).c3;obtain⟨z0,z1⟩:=cl2 r2;obtain⟨y0,y1⟩:=fl2 r2;have x1:=hx0.step hf1 (fun _ _ h=>h);have Hx:Hid (∀ v0 v1,Fr No w ((w1.setCell ⟨w.heap.size+1+1,0,none⟩ v0).setCell ⟨w.heap.size+1+1,1,none⟩ v1)):=fun v0 v1=>x1.step (T:=Is (w.heap.size+1+1)) (((Fr.refl _ _).setAt v0).setAt v1) (fun b hb h=>by unfold Is at h;omega)
 clear horg t0 c1 q0 q1 q2 r1 r2
 go_wp2_with fail
 refine bodyPost_ret (v:=.agg #[.string P,.string d.orig]) (by simp[results,Tryz.results109,go_sem,z0,z1]) rfl ?_;exact⟨rfl,Hx.out _ _⟩
end Go.Proofs.YtmajgldaplkpiaaGreatDoor
