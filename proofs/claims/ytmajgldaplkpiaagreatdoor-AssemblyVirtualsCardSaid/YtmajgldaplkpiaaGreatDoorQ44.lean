import Derived.Test.YtmajgldaplkpiaaGreatDoorQ11
namespace Go.Proofs.YtmajgldaplkpiaaGreatDoor
open Go.RowKit Go.Maps
set_option linter.unusedVariables false
set_option maxRecDepth 100000
set_option maxHeartbeats 4000000
def numOf (p d:Dev)(k:Nat):Prop:=d.orig=p.orig++⟨#[112]⟩++⟨(Lib.decDigits k).toArray⟩
theorem zLK (k:Nat)(h1:1<=k)(h2:k<=16):Lib.decDigits k=if k<10 then [UInt8.ofNat (48+k)]else [49,UInt8.ofNat (48+k % 10)]:=by
 rw[Lib.decDigits];by_cases h:k<10
 ·rw[dif_pos h,if_pos h]
 ·rw[dif_neg h,if_neg h,Lib.decDigits,dif_pos (by omega)];have:k / 10=1:=by omega
  rw[this];rfl
theorem zGq : ∀ k:Nat,1<=k->k<=16->Lib.atoiAll (Lib.decDigits k)=.ok (k:Int):=by
 intro k h1 h2;rw[zLK k h1 h2];rcases(by omega:k=1\/k=2\/k=3\/k=4\/k=5\/k=6\/k=7\/k=8\/k=9\/k=10\/k=11\/k=12\/k=13\/k=14\/k=15\/k=16)with rfl | rfl | rfl | rfl | rfl | rfl | rfl | rfl | rfl | rfl | rfl | rfl | rfl | rfl | rfl | rfl<;>rfl
theorem zER {p d:Dev}:(partB p d).isSome=true↔d.kind=2/\p.kind=2/\∃ k:Nat,1<=k/\k<=16/\numOf p d k:=by
 constructor
 ·intro h;rcases hv:Lib.atoiAll (zy p d).data.toList with v | _ | _
  ·rw[zDt hv]at h;split at h
   ·rename_i hc;obtain⟨h1,h2,h3,h4,h5,h6⟩:=hc;refine⟨h5,h6,v.toNat,by omega,by omega,?_⟩;unfold cutB Lib.hasPrefix at h1;unfold zy Lib.trimPrefix Lib.hasPrefix at h4;rw[if_pos h1]at h4;obtain⟨t,ht⟩:=List.isPrefixOf_iff_prefix.1 h1;rw[<-ht]at h4;replace h4:Lib.decDigits v.toNat=t:=by rw[h4];exact List.drop_left
    unfold numOf;apply ByteArray.ext;apply Array.ext';rw[<-ht,h4];simp[ByteArray.data_append]
   ·cases h
  ·rw[zCo (fun v e=>by rw[hv]at e;cases e)]at h;cases h
  ·rw[zCo (fun v e=>by rw[hv]at e;cases e)]at h;cases h
 ·rintro ⟨h1,h2,k,h3,h4,h5⟩;have hd:d.orig.data.toList=(p.orig++⟨#[112]⟩).data.toList++Lib.decDigits k:=by
   unfold numOf at h5;rw[h5];simp[ByteArray.data_append]
  have hpre:Lib.hasPrefix d.orig.data.toList (p.orig++⟨#[112]⟩).data.toList=true:=by
   unfold Lib.hasPrefix;rw[hd];exact List.isPrefixOf_iff_prefix.2 ⟨_,rfl⟩
  have hdig:(zy p d).data.toList=Lib.decDigits k:=by
   unfold zy Lib.trimPrefix;rw[if_pos hpre,hd];exact List.drop_left
  have hv:=zGq k h3 h4;rw[<-hdig]at hv;rw[zDt hv,if_pos ⟨hpre,by omega,by omega,by rw[hdig];simp,h1,h2⟩];rfl
def numTxt (p:ByteArray)(k:Nat):ByteArray:=p++⟨#[112]⟩++⟨(Lib.decDigits k).toArray⟩
def NumR (p o:ByteArray)(k:Nat):Prop:=(1<=k/\k<=16/\o=numTxt p k)\/(k=0/\∀ j:Nat,1<=j->j<=16->o≠numTxt p j)
theorem zKG (k:Nat)(h1:1<=k)(h2:k<=16):(Lib.decDigits k).length<=2:=by
 rw[Lib.decDigits];split
 ·simp
 ·rw[Lib.decDigits,dif_pos (by omega)];simp
theorem zGU (p o:ByteArray)(w:World)(hp:p.size<=1000):
  Calls Tryz.prog 47 #[.string p,.string o] w fun e w'=>(∃ k:Nat,e=.returned (.int .i64 (k:Int))/\NumR p o k)/\w=w':=by
 have hpp:(p++(⟨#[112]⟩:ByteArray)).size<=9223372036854775807:=by rw[ByteArray.size_append];show p.size+1<=_;omega
 go_enter Tryz.func47,Tryz.ntmps47
 go_wp2_with fail
 go_loop [5] (fun i=>∃ k:Nat,1<=k/\k<=17/\i=.int .i64 (k:Int)/\Hid (∀ j:Nat,1<=j->j<k->o≠numTxt p j)) (fun i=>17-(intOf i).toNat)
 case atStart=>exact⟨1,by omega,by omega,rfl,fun j h1 h2=>by omega⟩
 case round=>
  obtain⟨k,hk1,hk2,rfl,hno⟩:=hrel;by_cases hlt:k<=16
  ·have hlt':(k:Int)<=16:=by omega
   go_wp2_with fail
   refine(Tryz.strconv_Itoa_small k (by omega) _).mono ?_;rintro e w1 ⟨rfl,rfl⟩;obtain⟨it,hit⟩:∃ it,it=(⟨(Lib.decDigits k).toArray⟩:ByteArray):=⟨_,rfl⟩
   rw[<-hit];have hsz:it.size<=2:=by rw[hit];simpa [ByteArray.size]using zKG k hk1 hlt
   have hpq:(p++(⟨#[112]⟩:ByteArray)++it).size<=9223372036854775807:=by rw[ByteArray.size_append,ByteArray.size_append];show p.size+1+it.size<=_;omega
   have Ht:Hid (numTxt p k=p++⟨#[112]⟩++it):=by unfold Hid numTxt;rw[hit]
   clear hit;rcases he:(o.toList==(p++(⟨#[112]⟩:ByteArray)++it).toList)with _ | _
   ·have Hne:Hid (o≠numTxt p k):=by
     intro e;rw[Ht.out]at e;rw[<-e]at he;simp at he
    go_wp2_with fail
    go_round
    case rel=>exact⟨k+1,by omega,by omega,by go_num,fun j h1 h2=>by
     by_cases e:j=k
     ·subst e;exact Hne.out
     ·exact hno.out j h1 (by omega)⟩
    case measure=>simp[intOf];omega
   ·have Heq:Hid (o=numTxt p k):=by
     unfold Hid;rw[Ht.out];rw[beq_iff_eq,ByteArray.toList_eq,ByteArray.toList_eq]at he;exact ByteArray.ext (Array.ext' he)
    go_wp2_with fail
    go_ret;exact⟨⟨k,rfl,.inl ⟨hk1,hlt,Heq.out⟩⟩,rfl⟩
  ·have hlt':¬ (k:Int)<=16:=by omega
   go_wp2_with fail
   go_ret;exact⟨⟨0,rfl,.inr ⟨rfl,fun j h1 h2=>hno.out j h1 (by omega)⟩⟩,rfl⟩
theorem zIb {p d:Dev}{k:Nat}(h:NumR p.orig d.orig k)(h1:d.kind=2)(h2:p.kind=2):(partB p d).isSome=decide (0<k):=by
 rw[Bool.eq_iff_iff,zER,decide_eq_true_iff];constructor
 ·rintro ⟨_,_,j,h3,h4,h5⟩;rcases h with⟨h6,_,_⟩ | ⟨_,h6⟩
  ·omega
  ·exact absurd h5 (h6 j h3 h4)
 ·intro h0;rcases h with⟨h6,h7,h8⟩ | ⟨h6,_⟩
  ·exact⟨h1,h2,k,h6,h7,h8⟩
  ·omega
theorem zCn {p d:Dev}(h:¬ (d.kind=2/\p.kind=2)):(partB p d).isSome=false:=by
 cases hb:(partB p d).isSome with
 | false=>rfl
 | true=>
  have:=zER.1 hb;exact absurd ⟨this.1,this.2.1⟩ h
theorem zIV (a:Option Addr)(cap:Nat)(ds:List Dev)(n:Int)(w:World)(hl:Devs w a cap ds)(hT:TreeOk ds):
  Calls Tryz.prog 22 #[.agg #[.slice a ds.length cap],.int .i64 n] w fun e w'=>(∃ k:Int,e=.returned (.tuple #[.int .i64 k,.bool (partOf ds n).isSome]))/\Fr No w w':=by
 have h0:Fr No w (w.alloc (.cells #[.slice a ds.length cap] 28)):=(Fr.refl _ _).alloc _;have q2:=zD w (.cells #[.slice a ds.length cap] 28);have hl0:=hl.no h0 (fun _=>id)
 go_enter Tryz.func22,Tryz.ntmps22
 go_wp2_with fail
 generalize w.alloc (.cells #[.slice a ds.length cap] 28)=W0 at *;clear hl;cases hlk:look ds n with
 | none=>
  refine(zAA a cap ds n _ hl0 hlk).mono ?_;rintro e w1 ⟨rfl,hf1⟩;have Hr:Hid ((partOf ds n).isSome=false):=by unfold Hid partOf;rw[hlk];rfl
  have hy:Fr No w1 (w1.alloc (.cells Dev.zero.vals 34)):=(Fr.refl _ _).alloc _;have q22:=hy.heap (hf1.heap q2 id) id;have q6:=zD w1 (.cells Dev.zero.vals 34);have hl2:=(hl0.no hf1 (fun _=>id)).no hy (fun _=>id);have Hfy:=Lib.hid ((h0.step hf1 (fun _ _ h=>h)).step hy (fun _ _ h=>h));have c2:(w1.alloc (.cells Dev.zero.vals 34)).cell? ⟨w.heap.size,0,none⟩=some (.slice a ds.length cap):=zB q22 0;unfold Dev.vals Dev.zero at *;clear hl0 hy hf1 h0 q2
  go_wp2_with fail
  refine(zAA a cap ds 0 _ hl2 hT.zero).mono ?_;rintro e w2 ⟨rfl,hf2⟩;have Hf:=Lib.hid ((Hfy.out.step hf2 (fun _ _ h=>h)).alloc (.cells Dev.zero.vals 34));unfold Dev.vals Dev.zero at *;clear hf2 hl2 hlk
  go_wp2_with fail
  go_ret2
  exact⟨⟨0,by rw[Hr.out];rfl⟩,Hf.out⟩
 | some d=>
  refine(zAJ a cap ds n d _ hl0 hlk).mono ?_;rintro e w1 ⟨rfl,hf1⟩;have hd:=zAE hlk;have hy:Fr No w1 (w1.alloc (.cells d.vals 34)):=(Fr.refl _ _).alloc _;have q22:=hy.heap (hf1.heap q2 id) id;have q6:=zD w1 (.cells d.vals 34);have hl2:=(hl0.no hf1 (fun _=>id)).no hy (fun _=>id);have Hfy:=Lib.hid ((h0.step hf1 (fun _ _ h=>h)).step hy (fun _ _ h=>h));have c2:(w1.alloc (.cells d.vals 34)).cell? ⟨w.heap.size,0,none⟩=some (.slice a ds.length cap):=zB q22 0;have Hlk:=Lib.hid hlk;have Hd:=Lib.hid hd.1;unfold Dev.vals at *;clear hl0 hy hf1 h0 q2 hlk hd
  go_wp2_with fail
  cases hlp:look ds d.parent with
  | none=>
   refine(zAA a cap ds d.parent _ hl2 hlp).mono ?_;rintro e w2 ⟨rfl,hf2⟩;have Hr:Hid ((partOf ds n).isSome=false):=by unfold Hid partOf;rw[Hlk.out];simp only;rw[hlp];rfl
   have Hf:=Lib.hid ((Hfy.out.step hf2 (fun _ _ h=>h)).alloc (.cells Dev.zero.vals 34));unfold Dev.vals Dev.zero at *;clear hf2 hl2 hlp
   go_wp2_with fail
   go_ret2
   exact⟨⟨0,by rw[Hr.out];rfl⟩,Hf.out⟩
  | some p=>
   refine(zAJ a cap ds d.parent p _ hl2 hlp).mono ?_;rintro e w2 ⟨rfl,hf2⟩;have Hr:Hid (partOf ds n=partB p d):=by unfold Hid partOf;rw[Hlk.out];simp only;rw[hlp]
   have Hp:=Lib.hid (zAE hlp).1;have hz:Fr No w2 (w2.alloc (.cells p.vals 34)):=(Fr.refl _ _).alloc _;have q62:=hz.heap (hf2.heap q6 id) id;have q8:=zD w2 (.cells p.vals 34);have Hfz:=Lib.hid ((Hfy.out.step hf2 (fun _ _ h=>h)).step hz (fun _ _ h=>h));unfold Dev.vals at *;obtain⟨-,-,-,d3,-,-,-,d7⟩:=cl8 q62;obtain⟨-,-,-,p3,-,-,-,p7⟩:=cl8 q8;have hps:=hT.sz p Hp.out;clear hf2 hl2 hlp hz q62 q6 q8 q22 c2;by_cases hk1:d.kind=2
   ·have hk1':(d.kind != 2)=false:=by simpa using hk1
    by_cases hk2:p.kind=2
    ·have hk2':(p.kind != 2)=false:=by simpa using hk2
     have Hk:=Lib.hid (And.intro hk1 hk2);clear hk1 hk2
     go_wp2_with fail
     refine(zGU p.orig d.orig _ (by omega)).mono ?_;rintro e w3 ⟨⟨k,rfl,hN⟩,rfl⟩;have Hres:Hid ((partOf ds n).isSome=decide (0<k)):=by unfold Hid;rw[Hr.out];exact zIb hN Hk.out.1 Hk.out.2
     clear hN
     go_wp2_with fail
     go_ret2
     exact⟨⟨(k:Int),by rw[Hres.out];rfl⟩,Hfz.out⟩
    ·have hk2':(p.kind != 2)=true:=by simpa using hk2
     have Hres:Hid ((partOf ds n).isSome=false):=by unfold Hid;rw[Hr.out];exact zCn (fun h=>hk2 h.2)
     go_wp2_with fail
     go_ret2
     exact⟨⟨0,by rw[Hres.out];rfl⟩,Hfz.out⟩
   ·have hk1':(d.kind != 2)=true:=by simpa using hk1
    have Hres:Hid ((partOf ds n).isSome=false):=by unfold Hid;rw[Hr.out];exact zCn (fun h=>hk1 h.1)
    go_wp2_with fail
    go_ret2
    exact⟨⟨0,by rw[Hres.out];rfl⟩,Hfz.out⟩
theorem zE0 (a:Option Addr)(cap:Nat)(ds:List Dev)(n:Int)(w:World)(hl:Devs w a cap ds)(hT:TreeOk ds):
  Calls Tryz.prog 7 #[.agg #[.slice a ds.length cap],.int .i64 n] w fun e w'=>e=.returned (.bool (virB ds n))/\Fr No w w':=by
 obtain⟨W0,hW0⟩:∃ W0,W0=w.alloc (.cells #[.slice a ds.length cap] 28):=⟨_,rfl⟩
 have h0:Fr No w W0:=by rw[hW0];exact(Fr.refl _ _).alloc _
 have q0:W0.heap[w.heap.size]?=some (.cells #[.slice a ds.length cap] 28):=by rw[hW0];exact zD _ _
 have t0:W0.cell? ⟨w.heap.size,0,none⟩=some (.slice a ds.length cap):=zB q0 0;have hl0:=hl.no h0 (fun _=>id);clear hl
 go_enter Tryz.func7,Tryz.ntmps7
 go_upto_region 1 with(fail)
 rw[<-hW0];clear hW0;cases hlk:look ds n with
 | none=>
  have Hr:Hid (virB ds n=false):=by unfold Hid virB;rw[hlk]
  have hfd:=zAA a cap ds n W0 hl0 hlk;have H0:=Lib.hid h0;clear hlk hl0 h0
  go_wp2_with fail
  refine hfd.mono ?_;rintro e w1 ⟨rfl,hf1⟩;have Hf:=Lib.hid ((H0.out.step hf1 (fun _ _ h=>h)).alloc (.cells Dev.zero.vals 34));unfold Dev.vals Dev.zero at *;clear hf1 hfd
  go_wp2_with fail
  go_ret;exact⟨by rw[Hr.out];rfl,Hf.out⟩
 | some d=>
  have Hr:Hid (virB ds n=((partOf ds n).isSome||((d.parent==0)&&(Lib.hasPrefix d.orig.data.toList [109,100,45]||Lib.hasPrefix d.orig.data.toList [111,112,101,110,45]||Lib.hasPrefix d.orig.data.toList [108,118,45])))):=by unfold Hid virB;rw[hlk];rfl
  have hfd:=zAJ a cap ds n d W0 hl0 hlk;have HP0:Hid (∀ W,Calls Tryz.prog 20 #[.string d.orig,.string ⟨#[109,100,45]⟩] W fun e w'=>e=.returned (.bool (Lib.hasPrefix d.orig.data.toList [109,100,45]))/\W=w'):=fun W=>(Tryz.strings_HasPrefix d.orig ⟨#[109,100,45]⟩ W).mono (fun e w' h=>⟨h.1,h.2.symm⟩)
  have HP1:Hid (∀ W,Calls Tryz.prog 20 #[.string d.orig,.string ⟨#[111,112,101,110,45]⟩] W fun e w'=>e=.returned (.bool (Lib.hasPrefix d.orig.data.toList [111,112,101,110,45]))/\W=w'):=fun W=>(Tryz.strings_HasPrefix d.orig ⟨#[111,112,101,110,45]⟩ W).mono (fun e w' h=>⟨h.1,h.2.symm⟩)
  have HP2:Hid (∀ W,Calls Tryz.prog 20 #[.string d.orig,.string ⟨#[108,118,45]⟩] W fun e w'=>e=.returned (.bool (Lib.hasPrefix d.orig.data.toList [108,118,45]))/\W=w'):=fun W=>(Tryz.strings_HasPrefix d.orig ⟨#[108,118,45]⟩ W).mono (fun e w' h=>⟨h.1,h.2.symm⟩)
  generalize Lib.hasPrefix d.orig.data.toList [109,100,45]=p0 at *;generalize Lib.hasPrefix d.orig.data.toList [111,112,101,110,45]=p1 at *;generalize Lib.hasPrefix d.orig.data.toList [108,118,45]=p2 at *;have H0:=Lib.hid (And.intro h0 hl0);have Q0:=Lib.hid q0;clear hlk hl0 h0 q0
  go_wp2_with fail
  refine hfd.mono ?_;rintro e w1 ⟨rfl,hf1⟩;obtain⟨W2,hW2⟩:∃ W2,W2=w1.alloc (.cells d.vals 34):=⟨_,rfl⟩
  have h2:Fr No w1 W2:=by rw[hW2];exact(Fr.refl _ _).alloc _
  have d2:W2.heap[w1.heap.size]?=some (.cells d.vals 34):=by rw[hW2];exact zD _ _
  have hf02:=hf1.step h2 (fun _ _ h=>h);have hpt:=zIV a cap ds n W2 (H0.out.2.no hf02 (fun _=>id)) hT;have HF2:=Lib.hid (H0.out.1.step hf02 (fun _ _ h=>h));have t2:W2.cell? ⟨w.heap.size,0,none⟩=some (.slice a ds.length cap):=zB (hf02.heap Q0.out id) 0;have D2:=Lib.hid d2;unfold Dev.vals at hW2 ⊢;clear hfd hf1 h2 d2 hf02 t0
  go_upto_region 2 with(fail)
  rw[<-hW2];clear hW2
  go_wp2_with fail
  refine hpt.mono ?_;rintro e w3 ⟨⟨k,rfl⟩,hf3⟩;have d3:=hf3.heap D2.out id;have c1:w3.cell? ⟨w1.heap.size,1,none⟩=some (.int .i64 d.parent):=(DevB.of d3).c1;have c3:w3.cell? ⟨w1.heap.size,3,none⟩=some (.string d.orig):=(DevB.of d3).c3;have HF3:=Lib.hid (HF2.out.step hf3 (fun _ _ h=>h));clear hpt hf3 d3 t2;generalize (partOf ds n).isSome=pt at *;generalize hpp:(d.parent==0)=pp at *;cases pt with
  | true=>
   go_wp2_with fail
   go_ret;exact⟨by rw[Hr.out];rfl,HF3.out⟩
  | false=>
   cases pp with
   | false=>
    go_wp2_with fail
    go_ret;exact⟨by rw[Hr.out];rfl,HF3.out⟩
   | true=>
    go_wp2_with fail
    refine(HP0.out w3).mono ?_;rintro e w4 ⟨rfl,rfl⟩;cases p0 with
    | true=>
     go_wp2_with fail
     go_ret;exact⟨by rw[Hr.out];rfl,HF3.out⟩
    | false=>
     go_wp2_with fail
     refine(HP1.out w3).mono ?_;rintro e w4 ⟨rfl,rfl⟩;cases p1 with
     | true=>
      go_wp2_with fail
      go_ret;exact⟨by rw[Hr.out];rfl,HF3.out⟩
     | false=>
      go_wp2_with fail
      refine(HP2.out w3).mono ?_;rintro e w4 ⟨rfl,rfl⟩
      go_wp2_with fail
      go_ret;exact⟨by rw[Hr.out];simp,HF3.out⟩
theorem zGT (a ra:Option Addr)(cap rc:Nat)(ds:List Dev)(L:List Rec)(n:Int)(w:World)(hl:Devs w a cap ds)(hT:TreeOk ds)(hn:ds.length<=1000)(hr:Recs w ra rc L):
  Calls Tryz.prog 9 #[.agg #[.slice a ds.length cap],.slice ra L.length rc,.int .i64 n] w fun e w'=>e=.returned (.bool (cntB ds L n))/\Fr No w w':=by
 obtain⟨W0,hW0⟩:∃ W0,W0=w.alloc (.cells #[.slice a ds.length cap] 28):=⟨_,rfl⟩
 have h0:Fr No w W0:=by rw[hW0];exact(Fr.refl _ _).alloc _
 have q0:W0.heap[w.heap.size]?=some (.cells #[.slice a ds.length cap] 28):=by rw[hW0];exact zD _ _
 have t0:W0.cell? ⟨w.heap.size,0,none⟩=some (.slice a ds.length cap):=zB q0 0;have hl0:=hl.no h0 (fun _=>id);have hm:=hr.lenmax;have HR:=Lib.hid (hr.no h0 (fun _=>id));clear hl hr
 go_enter Tryz.func9,Tryz.ntmps9
 go_upto_region 1 with(fail)
 rw[<-hW0];clear hW0;cases hlk:look ds n with
 | none=>
  have Hr:Hid (cntB ds L n=false):=by unfold Hid cntB;rw[hlk]
  have hfd:=zAA a cap ds n W0 hl0 hlk;have H0:=Lib.hid h0;clear hlk hl0 h0
  go_wp2_with fail
  refine hfd.mono ?_;rintro e w1 ⟨rfl,hf1⟩;have Hf:=Lib.hid ((H0.out.step hf1 (fun _ _ h=>h)).alloc (.cells Dev.zero.vals 34));unfold Dev.vals Dev.zero at *;clear hf1 hfd
  go_wp2_with fail
  go_ret;exact⟨by rw[Hr.out];rfl,Hf.out⟩
 | some d=>
  obtain⟨P,hP⟩:∃ P,P=pathOf (origin ds n):=⟨_,rfl⟩
  have Hr:Hid (cntB ds L n=match L.find? (Rec.is n P)with
   | none=>false
   | some r=>d.kind==2&&!((getP r.props ignB).toList==[49])):=by unfold Hid cntB;rw[hlk,hP];rfl
  have hfd:=zAJ a cap ds n d W0 hl0 hlk;have H0:=Lib.hid (And.intro h0 hl0);have Q0:=Lib.hid q0;have HPL:Hid (∀ W,Fr No W0 W->Calls Tryz.prog 13 #[.agg #[.slice a ds.length cap],.int .i64 n] W fun e w'=>e=.returned (.string P)/\Fr No W w'):=fun W hW=>by
   rw[hP];exact zCl a cap ds n W (hl0.no hW (fun _=>id)) hT (by omega)
  clear hlk hl0 h0 q0 hP
  go_wp2_with fail
  refine hfd.mono ?_;rintro e w1 ⟨rfl,hf1⟩;obtain⟨W2,hW2⟩:∃ W2,W2=w1.alloc (.cells d.vals 34):=⟨_,rfl⟩
  have h2:Fr No w1 W2:=by rw[hW2];exact(Fr.refl _ _).alloc _
  have d2:W2.heap[w1.heap.size]?=some (.cells d.vals 34):=by rw[hW2];exact zD _ _
  have HF2:=Lib.hid (hf1.step h2 (fun _ _ h=>h));have c7:W2.cell? ⟨w1.heap.size,7,none⟩=some (.int .i64 d.kind):=(DevB.of d2).c7;unfold Dev.vals at hW2 ⊢;clear hfd hf1 h2 d2 t0
  go_upto_region 2 with(fail)
  rw[<-hW2];clear hW2;rcases hkd:(d.kind==2)with _ | _
  ·have hkn:(d.kind != 2)=true:=by unfold bne;rw[hkd];rfl
   have Hv:Hid (cntB ds L n=false):=by
    unfold Hid;rw[Hr.out,hkd];cases L.find? (Rec.is n P)<;>rfl
   have HFN:=Lib.hid (H0.out.1.step HF2.out (fun _ _ h=>h));clear hkd
   go_wp2_with fail
   go_ret;exact⟨by rw[Hv.out];rfl,HFN.out⟩
  ·have hkn:(d.kind != 2)=false:=by unfold bne;rw[hkd];rfl
   have Hv:Hid (cntB ds L n=match L.find? (Rec.is n P)with
    | none=>false
    | some r=>!((getP r.props ignB).toList==[49])):=by unfold Hid;rw[Hr.out,hkd];simp
   clear hkd Hr
   go_wp2_with fail
   clear c7
   go_loopw [9] (fun x wr=>∃ k:Nat,k<=L.length/\x=.int .i64 (k:Int)/\Hid (∀ y∈L.take k,Rec.is n P y=false)/\Hid (Fr No W0 wr)) (fun x _=>L.length-(intOf x).toNat)
   case atStart=>exact⟨0,by omega,rfl,fun y hy=>by simp at hy,HF2.out⟩
   case round=>
    obtain⟨k,hk,rfl,HNO,HF⟩:=hrel;by_cases hlt:k<L.length
    ·have hlt':(k:Int)<L.length:=by omega
     obtain⟨rb,roff,r,rfl,hrk,hok,⟨c0,c1,c2,c3,c4,c5,c6,c7,c8,c9,c10,c11⟩⟩:=(HR.out.no HF.out (fun _=>id)).elem hlt;have HRK:=Lib.hid hrk;have HTK:Hid (L.take (k+1)=L.take k++[r]):=by unfold Hid;rw[List.take_add_one,hrk];rfl
     have HOK:=Lib.hid hok;clear hrk hok;have t0:wr.cell? ⟨w.heap.size,0,none⟩=some (.slice a ds.length cap):=zB (HF.out.heap Q0.out id) 0;have HC:=Lib.hid (show RecAt wr rb (roff+k*12) r from⟨c0,c1,c2,c3,c4,c5,c6,c7,c8,c9,c10,c11⟩);clear c2 c3 c4 c5 c6 c7 c8 c9 c10 c11
     go_wp2_with fail
     rcases hix:(r.index==n)with _ | _
     ·have Hix:Hid (Rec.is n P r=false):=by
       unfold Hid Rec.is;have:¬ r.index=n:=by simpa using hix
       simp[this]
      refine zR No [(0,false),(1,false),(2,false),(3,false),(4,false),(5,false),(6,false),(7,false),(8,false),(9,false),(10,false),(11,false),(12,false),(13,false),(14,false),(15,true),(16,false),(17,false)] (by kernel_rfl) (by kernel_rfl) (fun w6 hf6=>?_);have d1:∀ g:Gr No w6,g.W.cell? ⟨rb,roff+k*12+1,none⟩=some (.int .i64 r.index):=fun g=>g.fr.cell (hf6.cell c1 id) id
      have HF6:=Lib.hid (HF.out.step hf6 (fun _ _ h=>h));clear hf6 c0 c1 t0
      repeat (first | (apply zT;exact rfl;exact rfl;exact rfl;intro K hK;go_big_quiet_op;go_big_quiet_on) | (apply zW;exact rfl;exact rfl;exact rfl;intro K hK;go_big_quiet_op;go_big_quiet_on))
      apply zi;exact rfl
      go_wp2_with fail
      refine OnlyN.mk ⟨Fr.refl _ _,?_⟩
      repeat (first | (apply zT;exact rfl;exact rfl;exact rfl;intro K hK;go_big_quiet_op;go_big_quiet_on) | (apply zW;exact rfl;exact rfl;exact rfl;intro K hK;go_big_quiet_op;go_big_quiet_on))
      refine zb ?_;clear hix d1
      go_wp2_with fail
      go_roundw
      case rel=>exact⟨k+1,by omega,by go_num,by
       unfold Hid;rw[HTK.out];intro y hy;rcases List.mem_append.1 hy with hy | hy
       ·exact HNO.out y hy
       ·obtain rfl:y=r:=by simpa using hy
        exact Hix.out,HF6.out⟩
      case measure=>simp[intOf];omega
     ·have hix':r.index=n:=by simpa using hix
      have Hix:=Lib.hid hix';clear hix';refine zR No [(0,false),(1,false),(2,false),(3,false),(4,false),(5,false),(6,false),(7,false),(8,false),(9,false),(10,false),(11,false),(12,false),(13,false),(14,false),(15,true),(16,false),(17,false)] (by kernel_rfl) (by kernel_rfl) (fun w6 hf6=>?_);have d1:∀ g:Gr No w6,g.W.cell? ⟨rb,roff+k*12+1,none⟩=some (.int .i64 r.index):=fun g=>g.fr.cell (hf6.cell c1 id) id
      have d0:∀ g:Gr No w6,g.W.cell? ⟨rb,roff+k*12,none⟩=some (.string r.path):=fun g=>g.fr.cell (hf6.cell c0 id) id
      have d2:∀ g:Gr No w6,g.W.cell? ⟨w.heap.size,0,none⟩=some (.slice (a) ds.length cap):=fun g=>g.fr.cell (hf6.cell t0 id) id
      have Hf6:=Lib.hid hf6;have HF6:=Lib.hid (HF.out.step hf6 (fun _ _ h=>h));clear hf6 c0 c1 t0
      repeat (first | (apply zT;exact rfl;exact rfl;exact rfl;intro K hK;go_big_quiet_op;go_big_quiet_on) | (apply zW;exact rfl;exact rfl;exact rfl;intro K hK;go_big_quiet_op;go_big_quiet_on))
      apply zi;exact rfl
      go_wp2_with fail
      refine(HPL.out w6 HF6.out).mono ?_;rintro e w7 ⟨rfl,hf7⟩;have Hf7:=Lib.hid (Hf6.out.step hf7 (fun _ _ h=>h));have HF7:=Lib.hid (HF6.out.step hf7 (fun _ _ h=>h))
      go_wp2_with fail
      refine OnlyN.mk ⟨hf7.mono (fun _ _ h=>h.elim),?_⟩;clear hf7;rcases hpa:(r.path.toList==P.toList)with _ | _
      ·have Hno:Hid (Rec.is n P r=false):=by unfold Hid Rec.is;rw[hpa];simp
       repeat (first | (apply zT;exact rfl;exact rfl;exact rfl;intro K hK;go_big_quiet_op;go_big_quiet_on) | (apply zW;exact rfl;exact rfl;exact rfl;intro K hK;go_big_quiet_op;go_big_quiet_on))
       refine zb ?_;clear hpa hix d0 d1 d2
       go_wp2_with fail
       go_roundw
       case rel=>exact⟨k+1,by omega,by go_num,by
        unfold Hid;rw[HTK.out];intro y hy;rcases List.mem_append.1 hy with hy | hy
        ·exact HNO.out y hy
        ·obtain rfl:y=r:=by simpa using hy
         exact Hno.out,HF7.out⟩
       case measure=>simp[intOf];omega
      ·have Hyes:Hid (Rec.is n P r=true):=by unfold Hid Rec.is;rw[hpa,Hix.out];simp
       repeat (first | (apply zT;exact rfl;exact rfl;exact rfl;intro K hK;go_big_quiet_op;go_big_quiet_on) | (apply zW;exact rfl;exact rfl;exact rfl;intro K hK;go_big_quiet_op;go_big_quiet_on))
       refine zb ?_;have hget:=zHG r ignB w7 (HOK.out.no Hf7.out (fun _=>id));have Hfin:Hid (cntB ds L n=!((getP r.props ignB).toList==[49])):=by unfold Hid;rw[Hv.out,zBF (Rec.is n P) L k r HRK.out Hyes.out HNO.out]
       have C:=HC.out;have hcc:∀ p v,wr.cell? p=some v->w7.cell? p=some v:=fun p v h=>Hf7.out.cell h id
       have c0:=hcc _ _ C.c0;have c1:=hcc _ _ C.c1;have c2:=hcc _ _ C.c2;have c3:=hcc _ _ C.c3;have c4:=hcc _ _ C.c4;have c5:=hcc _ _ C.c5;have c6:=hcc _ _ C.c6;have c7:=hcc _ _ C.c7;have c8:=hcc _ _ C.c8;have c9:=hcc _ _ C.c9;have c10:=hcc _ _ C.c10;have c11:=hcc _ _ C.c11;generalize getP r.props ignB=gp at *;unfold Rec.vals ignB at hget;clear hpa hix d0 d1 d2 C hcc
       go_wp2_with fail
       refine hget.mono ?_;rintro e w8 ⟨rfl,hf8⟩;have HF8:=Lib.hid (H0.out.1.step (HF7.out.step hf8 (fun _ _ h=>h)) (fun _ _ h=>h));clear hget hf8 c0 c1 c2 c3 c4 c5 c6 c7 c8 c9 c10 c11
       go_wp2_with fail
       go_ret;exact⟨by rw[Hfin.out];first | rfl | simp,HF8.out⟩
    ·obtain rfl:k=L.length:=by omega
     have hlt':¬ (L.length:Int)<L.length:=by omega
     have hnone:L.find? (Rec.is n P)=none:=by
      rw[List.find?_eq_none];intro y hy;rw[HNO.out y (by rw[List.take_length];exact hy)];simp
     have Hfin:Hid (cntB ds L n=false):=by unfold Hid;rw[Hv.out,hnone]
     have HFE:=Lib.hid (H0.out.1.step HF.out (fun _ _ h=>h));clear hnone
     go_wp2_with fail
     go_ret;exact⟨by rw[Hfin.out];rfl,HFE.out⟩
end Go.Proofs.YtmajgldaplkpiaaGreatDoor
