import Derived.Test.YtinfjnndbfahhaaGreatDoorStrs2
import Derived.Test.YtinfjnndbfahhaaGreatDoorQ7
namespace Go.Proofs.YtinfjnndbfahhaaGreatDoor
open Go.RowKit Go.Maps
set_option linter.unusedVariables false
set_option maxRecDepth 100000
set_option maxHeartbeats 2000000
structure ErrV (w:World):Prop where
 s:∃ ev,w.cell? ⟨4,0,none⟩=some ev/\(ev=.nilIface\/∃ te pe,ev=.iface te pe)
 r:∃ ev,w.cell? ⟨5,0,none⟩=some ev/\(ev=.nilIface\/∃ te pe,ev=.iface te pe)
theorem ErrV.fr {S:Nat->Prop}{w w':World}(h:ErrV w)(f:Fr S w w')(g:¬ S 4)(o:¬ S 5):ErrV w':=by
 obtain⟨q,u,v⟩:=h.s;obtain⟨y,z,A⟩:=h.r;exact⟨⟨q,f.cell u g,v⟩,⟨y,f.cell z o,A⟩⟩
theorem ErrV.no {w w':World}(h:ErrV w)(f:Fr No w w'):ErrV w':=h.fr f id id
def zAQ (p d:Dev):ByteArray:=⟨(Lib.trimPrefix d.orig.data.toList (p.orig++⟨#[112]⟩).data.toList).toArray⟩
def partB (p d:Dev):Option Int:=match Lib.atoiAll (zAQ p d).data.toList with
 | .ok v=>if Lib.hasPrefix d.orig.data.toList (p.orig++⟨#[112]⟩).data.toList=true/\1<=v/\v<=16/\(Lib.decDigits v.toNat)=(zAQ p d).data.toList/\d.kind=2/\p.kind=2 then some v else none
 | _=>none
def zAJ (o:Option Int)(e:Ending):Prop:=e=.returned (.tuple #[.int .i64 (o.getD 0),.bool o.isSome])
theorem zFo {p d:Dev}(h:d.orig.size<=32):(zAQ p d).size<=32:=by
 unfold zAQ Lib.trimPrefix;have f:d.orig.data.toList.length<=32:=by rw[<-Lib.size_eq];exact h
 split
 ·simp only[ByteArray.size,List.size_toArray,List.length_drop];omega
 ·simp only[ByteArray.size,List.size_toArray];exact f
def cutB (p d:Dev):Bool:=Lib.hasPrefix d.orig.data.toList (p.orig++⟨#[112]⟩).data.toList
theorem zLQ (s q:ByteArray)(w:World):Calls Tryz.prog 192 #[.string s,.string q] w fun e w'=>e=.returned (.tuple #[.string ⟨(Lib.trimPrefix s.data.toList q.data.toList).toArray⟩,.bool (Lib.hasPrefix s.data.toList q.data.toList)])/\w=w':=
 (Tryz.strings_CutPrefix s q w).mono fun e w' h=>⟨h.1,h.2.symm⟩
theorem zHS (p d:Dev)(w:World):Calls Tryz.prog 192 #[.string d.orig,.string (p.orig++⟨#[112]⟩)] w fun e w'=>e=.returned (.tuple #[.string (zAQ p d),.bool (cutB p d)])/\w=w':=by
 unfold zAQ cutB;exact zLQ _ _ w
def AtoiR (s:ByteArray)(e:Ending):Prop:=
 (∃ v,Lib.atoiAll s.data.toList=.ok v/\e=.returned (.tuple #[.int .i64 v,.nilIface]))\/((∀ v,Lib.atoiAll s.data.toList≠.ok v)/\∃ (k:Int) (te:TypeId) (N:Nat),e=.returned (.tuple #[.int .i64 k,.iface te (.pointer (some ⟨N,0,none⟩))]))
theorem zGp (s:ByteArray)(w:World)(D:s.size<=1000)(g:ErrV w):Calls Tryz.prog 200 #[.string s] w fun e w'=>AtoiR s e/\Fr No w w':=by
 obtain⟨o,q,u⟩:=g.s;obtain⟨y,z,A⟩:=g.r;rcases h:Lib.atoiAll s.data.toList with v | _ | _
 ·refine(Tryz.strconv_Atoi_ok s (by omega) v h w).mono ?_;rintro e w' ⟨rfl,C⟩;refine⟨.inl ⟨v,h,rfl⟩,?_⟩;rcases C with rfl | ⟨t,rfl⟩
  ·exact Fr.refl _ _
  ·exact Fr.of_below_size (Lib.bytesWorld_below _ _ _)
 ·refine(Any.strconv_Atoi_syntax Tryz.laysC172 s (by omega) h o w q u).mono ?_;rintro e w' ⟨N,rfl,_,_,f⟩;exact⟨.inr ⟨fun v e=>(by rw[h]at e;cases e),0,_,N,rfl⟩,Fr.of_below_size f⟩
 ·refine(Tryz.strconv_Atoi_range s (by omega) h y w z A).mono ?_;rintro e w' ⟨N,rfl,_,_,f⟩;exact⟨.inr ⟨fun v e=>(by rw[h]at e;cases e),_,_,N,rfl⟩,Fr.of_below_size f⟩
theorem zH3 {p d:Dev}(h:cutB p d=false):partB p d=none:=by
 unfold cutB at h;unfold partB;split
 ·rw[if_neg (by rw[h];simp)]
 ·rfl
theorem zH2 {p d:Dev}(h:∀ v,Lib.atoiAll (zAQ p d).data.toList≠.ok v):partB p d=none:=by
 unfold partB;split
 ·rename_i v e;exact absurd e (h v)
 ·rfl
theorem zJV {p d:Dev}{v:Int}(h:Lib.atoiAll (zAQ p d).data.toList=.ok v):partB p d=if cutB p d=true/\1<=v/\v<=16/\(Lib.decDigits v.toNat)=(zAQ p d).data.toList/\d.kind=2/\p.kind=2 then some v else none:=by
 unfold partB cutB;rw[h]
theorem zFX (p d:Dev)(w:World)(hE:ErrV w)(hd:d.orig.size<=32)(hp:p.orig.size<=32):
  Calls Tryz.prog 154 #[.agg p.vals,.agg d.vals] w fun e w'=>zAJ (partB p d) e/\Fr No w w':=by
 have U:Fr No w ((w.alloc (.cells p.vals 36)).alloc (.cells d.vals 36)):=((Fr.refl _ _).alloc _).alloc _;have V:=zI w (.cells p.vals 36) (.cells d.vals 36);have X:=zL w (.cells p.vals 36) (.cells d.vals 36);have a6:=zFo (p:=p) hd;unfold Dev.vals at *
 go_enter Tryz.func154,Tryz.ntmps154
 go_upto_region 1 with(fail)
 generalize (w.alloc (.cells _ 36)).alloc (.cells _ 36)=W0 at *;have Y:W0.cell? ⟨w.heap.size,3,none⟩=some (.string p.orig):=zB V 3;have Z:W0.cell? ⟨w.heap.size+1,3,none⟩=some (.string d.orig):=zB X 3;have a7:(p.orig++(⟨#[112]⟩:ByteArray)).size<=9223372036854775807:=by rw[ByteArray.size_append];show p.orig.size+1<=_;omega
 go_wp2_with fail
 refine(zHS p d _).mono ?_;rintro e w1 ⟨rfl,rfl⟩;have C:Hid (cutB p d=false->partB p d=none):=fun h=>zH3 h
 have D:Hid ((∀ v,Lib.atoiAll (zAQ p d).data.toList≠.ok v)->partB p d=none):=fun h=>zH2 h
 have a2:Hid (∀ v,Lib.atoiAll (zAQ p d).data.toList=.ok v->partB p d=if cutB p d=true/\1<=v/\v<=16/\(Lib.decDigits v.toNat)=(zAQ p d).data.toList/\d.kind=2/\p.kind=2 then some v else none):=fun v h=>zJV h
 generalize zAQ p d=dg at *;generalize cutB p d=cb at *
 go_wp2_with fail
 refine(zGp dg _ (by omega) (hE.no U)).mono ?_;rintro e w2 ⟨hR,o⟩;have a3:=o.heap V id;have a4:=o.heap X id;have q:=zh (U.step o zi);clear Y Z V X U o;have a8:w2.cell? ⟨w.heap.size+1,7,none⟩=some (.int .i64 d.kind):=zB a4 7;have a9:w2.cell? ⟨w.heap.size,7,none⟩=some (.int .i64 p.kind):=zB a3 7;cases cb with
 | false=>
  have g:Hid (partB p d=none):=C.out rfl;rcases hR with⟨v,z,rfl⟩ | ⟨z,k,te,N,rfl⟩
  ·go_wp2_with fail
   go_ret2
   exact⟨by unfold zAJ;rw[g.out];rfl,q.out⟩
  ·go_wp2_with fail
   go_ret2
   exact⟨by unfold zAJ;rw[g.out];rfl,q.out⟩
 | true=>
  rcases hR with⟨v,z,rfl⟩ | ⟨z,k,te,N,rfl⟩
  ·have f:=zh (a2.out v z);clear z;by_cases h1:v<1
   ·have g:Hid (partB p d=none):=by unfold Hid;rw[f.out,if_neg (by omega)]
    go_wp2_with fail
    go_ret2
    exact⟨by unfold zAJ;rw[g.out];rfl,q.out⟩
   by_cases b0:16<v
   ·have g:Hid (partB p d=none):=by unfold Hid;rw[f.out,if_neg (by omega)]
    go_wp2_with fail
    go_ret2
    exact⟨by unfold zAJ;rw[g.out];rfl,q.out⟩
   obtain⟨i,rfl⟩:=Int.eq_ofNat_of_zero_le (show 0<=v by omega)
   go_wp2_with fail
   refine(Tryz.strconv_Itoa_small i (by omega) _).mono ?_;rintro e w3 ⟨rfl,rfl⟩;obtain⟨R,A⟩:∃ R,R=(⟨(Lib.decDigits i).toArray⟩:ByteArray):=⟨_,rfl⟩
   rw[<-A];have F:Hid ((R.toList==dg.toList)=decide (Lib.decDigits i=dg.data.toList)):=by
    unfold Hid;rw[A,Bool.eq_iff_iff,beq_iff_eq,decide_eq_true_iff,ByteArray.toList_eq,ByteArray.toList_eq]
   have I:((i:Int).toNat)=i:=by simp
   have J:=zh I;clear A I;rcases hie:(R.toList==dg.toList)with _ | _
   ·have g:Hid (partB p d=none):=by
     unfold Hid;rw[f.out,if_neg];rintro ⟨_,_,_,h,_⟩;rw[J.out]at h;have:=F.out;rw[hie,decide_eq_true h]at this;cases this
    go_wp2_with fail
    go_ret2
    exact⟨by unfold zAJ;rw[g.out];rfl,q.out⟩
   have a5:Hid (Lib.decDigits i=dg.data.toList):=by
    unfold Hid;have:=F.out;rw[hie]at this;exact of_decide_eq_true this.symm
   by_cases u:d.kind=2
   ·have L:(d.kind != 2)=false:=by simpa using u
    by_cases y:p.kind=2
    ·have O:(p.kind != 2)=false:=by simpa using y
     have g:Hid (partB p d=some (i:Int)):=by unfold Hid;rw[f.out,if_pos ⟨by trivial,by omega,by omega,by rw[J.out];exact a5.out,u,y⟩]
     go_wp2_with fail
     go_ret2
     exact⟨by unfold zAJ;rw[g.out];rfl,q.out⟩
    ·have O:(p.kind != 2)=true:=by simpa using y
     have g:Hid (partB p d=none):=by unfold Hid;rw[f.out,if_neg (fun h=>y h.2.2.2.2.2)]
     go_wp2_with fail
     go_ret2
     exact⟨by unfold zAJ;rw[g.out];rfl,q.out⟩
   ·have L:(d.kind != 2)=true:=by simpa using u
    have g:Hid (partB p d=none):=by unfold Hid;rw[f.out,if_neg (fun h=>u h.2.2.2.2.1)]
    go_wp2_with fail
    go_ret2
    exact⟨by unfold zAJ;rw[g.out];rfl,q.out⟩
  ·have g:Hid (partB p d=none):=D.out z;clear z
   go_wp2_with fail
   go_ret2
   exact⟨by unfold zAJ;rw[g.out];rfl,q.out⟩
def partOf (ds:List Dev)(n:Int):Option Int:=match look ds n with
 | none=>none
 | some d=>match look ds d.parent with
  | none=>none
  | some p=>partB p d
theorem zLn (a:Option Addr)(g:Nat)(ds:List Dev)(q:Nat)(n:Int)(w:World)(Y:Tr w q a g ds)(hE:ErrV w):
  Calls Tryz.prog 98 #[.agg #[.slice a ds.length g],.int .i64 n] w fun e w'=>zAJ (partOf ds n) e/\Fr No w w':=by
 have Z:=Y.wf.1;have hx:Fr No w (w.alloc (.cells #[.slice a ds.length g] 48)):=(Fr.refl _ _).alloc _;have q2:=zD w (.cells #[.slice a ds.length g] 48)
 go_enter Tryz.func98,Tryz.ntmps98
 go_wp2_with fail
 refine(zBG a g ds q n _ (Y.no hx)).mono ?_;rintro e A ⟨J,C⟩;have L:=C.heap q2 id;have y:=hx.step C zi;clear q2 hx C;rcases J with⟨f,rfl⟩ | ⟨d,u,v,la,f,rfl,-⟩
 ·have N:Hid (partOf ds n=none):=by unfold Hid partOf;rw[f]
  have z:Fr No A (A.alloc (.cells Dev.zero.vals 36)):=(Fr.refl _ _).alloc _;have D:=z.heap L id;have h:=y.step z zi;have c2:(A.alloc (.cells Dev.zero.vals 36)).cell? ⟨w.heap.size,0,none⟩=some (.slice a ds.length g):=zB D 0;unfold Dev.vals Dev.zero at *;clear f
  go_wp2_with fail
  refine(zBG a g ds q 0 _ (Y.no h)).mono ?_;rintro e w2 ⟨J,o⟩;rcases J with⟨f,rfl⟩ | ⟨d,u,v,la,f,rfl,-⟩
  ·have O:=zh ((h.step o zi).alloc (.cells Dev.zero.vals 36));unfold Dev.vals Dev.zero at *;clear o h z f
   go_wp2_with fail
   go_ret2
   exact⟨by unfold zAJ;rw[N.out];rfl,O.out⟩
  ·rw[Z.zero]at f;cases f
 ·have hd:=zAN f;have z:Fr No A (A.alloc (.cells ({ d with aa:=u,ac:=v }:Dev).vals 36)):=(Fr.refl _ _).alloc _;have D:=z.heap L id;have q6:=zD A (.cells ({ d with aa:=u,ac:=v }:Dev).vals 36);have h:=y.step z zi;have c2:(A.alloc (.cells ({ d with aa:=u,ac:=v }:Dev).vals 36)).cell? ⟨w.heap.size,0,none⟩=some (.slice a ds.length g):=zB D 0;have R:=zh f;have Hd:=zh hd.1;unfold Dev.vals at *;clear f hd
  go_wp2_with fail
  refine(zBG a g ds q d.parent _ (Y.no h)).mono ?_;rintro e w2 ⟨J,o⟩;rcases J with⟨f,rfl⟩ | ⟨p,F,I,lp,f,rfl,-⟩
  ·have N:Hid (partOf ds n=none):=by unfold Hid partOf;rw[R.out];simp only;rw[f]
   have O:=zh ((h.step o zi).alloc (.cells Dev.zero.vals 36));unfold Dev.vals Dev.zero at *;clear o h z f
   go_wp2_with fail
   go_ret2
   exact⟨by unfold zAJ;rw[N.out];rfl,O.out⟩
  ·have N:Hid (partOf ds n=partB p d):=by unfold Hid partOf;rw[R.out];simp only;rw[f]
   have a2:=(zAN f).1;have hz:Fr No w2 (w2.alloc (.cells ({ p with aa:=F,ac:=I }:Dev).vals 36)):=(Fr.refl _ _).alloc _;have U:=hz.heap (o.heap q6 id) id;have V:=(h.step o zi).step hz zi;obtain⟨d0,d1,d2,d3,d4,d5,d6,d7,d8,d9⟩:=cl10 U;have hP:=zFX ({ p with aa:=F,ac:=I }:Dev) ({ d with aa:=u,ac:=v }:Dev) _ (hE.no V) (Z.sz d Hd.out) (Z.sz p a2);have e:partB ({ p with aa:=F,ac:=I }:Dev) ({ d with aa:=u,ac:=v }:Dev)=partB p d:=rfl;rw[e]at hP;have HP:=zh hP;have a3:=zh V;unfold Dev.vals at *;clear hP e o h z hz f U q6 y;generalize partB p d=res at *
   go_wp2_with fail
   refine HP.out.mono ?_;rintro e w3 ⟨he,X⟩;unfold zAJ at he;subst he;have O:=zh (a3.out.step X zi);clear X
   go_wp2_with fail
   go_ret2
   exact⟨by unfold zAJ;rw[N.out];rfl,O.out⟩
def zr : ByteArray:=⟨#[99,111,110,116,101,110,116]⟩
theorem zL8 (a:Option Addr)(q:Nat)(l:List (ByteArray×ByteArray))(f:ByteArray)(w:World)(D:Atts w a q l):
  Calls Tryz.prog 94 #[.slice a l.length q,.string f] w fun e w'=>GotS (getP l f) e/\Fr No w w':=by
 have L:=D.lenmax
 go_enter Tryz.func94,Tryz.ntmps94
 go_wp2_with fail
 go_loopw [10] (fun i wr=>∃ k:Nat,k<=l.length/\i=.int .i64 k/\Hid (∀ x∈l.take k,isKey f x=false)/\Fr No w wr) (fun i _=>l.length-(intOf i).toNat)
 case atStart=>exact⟨0,by omega,rfl,by unfold Hid;simp,Fr.refl _ _⟩
 case round=>
  obtain⟨k,N,rfl,o,g⟩:=hrel;by_cases A:k<l.length
  ·have F:(k:Int)<l.length:=by omega
   obtain⟨O,J,x,y,R,u,-,-,U,V⟩:=(D.no g (fun _=>id)).at A;have v:=zh u;clear u;rcases he:(x.toList==f.toList)with _ | _
   ·go_wp2_with fail
    go_roundw
    case rel=>
     refine⟨k+1,by omega,by go_num,?_,g.alloc _⟩;unfold Hid;intro z I;rw[List.take_add_one,v.out]at I;rcases List.mem_append.1 I with h | h
     ·exact o.out z h
     ·simp at h;subst h;exact he
    case measure=>simp[intOf];omega
   ·have C:Hid (getP l f=y):=by unfold Hid getP;rw[zDC (isKey f) _ _ _ v.out he o.out];rfl
    go_wp2_with fail
    go_ret2
    exact⟨⟨true,by rw[C.out];rfl⟩,g.alloc _⟩
  ·obtain rfl:k=l.length:=by omega
   have h:=o.out;rw[List.take_of_length_le (by omega)]at h;have C:Hid (getP l f=⟨#[]⟩):=by unfold Hid getP;rw[zIc _ _ h];rfl
   go_wp2_with fail
   go_ret2
   exact⟨⟨false,by rw[C.out];rfl⟩,g⟩
theorem zKU (d:Dev)(l:List (ByteArray×ByteArray))(w:World)(v:Atts w d.aa d.ac l)(h:d.an=l.length):
  Calls Tryz.prog 116 #[.agg d.vals] w fun e w'=>e=.returned (.string (getP l zr))/\Fr No w w':=by
 obtain⟨o,f⟩:∃ o,o=w.alloc (.cells d.vals 36):=⟨_,rfl⟩
 have y:Fr No w o:=by rw[f];exact(Fr.refl _ _).alloc _
 have z:o.heap[w.heap.size]?=some (.cells d.vals 36):=by rw[f];exact zD _ _
 have q:=zL8 d.aa d.ac l zr o (v.no y (fun _=>id));rw[<-h]at q;have C:=(DevB.of z).c9;unfold Dev.vals at f ⊢;unfold zr at q;clear z h v;have A:Hid (getP l zr=getP l ⟨#[99,111,110,116,101,110,116]⟩):=rfl;rw[A.out];generalize getP l ⟨#[99,111,110,116,101,110,116]⟩=g at *
 go_enter Tryz.func116,Tryz.ntmps116
 go_upto_region 1 with(fail)
 rw[<-f];clear f
 go_wp2_with fail
 refine q.mono ?_;rintro e D ⟨⟨b,rfl⟩,u⟩;clear q
 go_wp2_with fail
 go_ret;exact⟨rfl,y.step u zi⟩
def preB (s:ByteArray):Bool:=Lib.hasPrefix s.data.toList [109,100,45]||Lib.hasPrefix s.data.toList [111,112,101,110,45]||Lib.hasPrefix s.data.toList [108,118,45]
def virB (ds:List Dev)(n:Int):Bool:=match look ds n with
 | none=>false
 | some d=>(partOf ds n).isSome||(d.parent==0&&preB d.orig)
theorem zFQ (f:Nat)(d:Dev)(s:ByteArray)(w:World)(g:w.heap[f]?=some (.cells d.vals 36)):
  Calls Tryz.prog 99 #[.string s,.pointer (some ⟨f,0,none⟩)] w fun e w'=>e=.returned (.bool (Lib.hasPrefix d.orig.data.toList s.data.toList))/\w=w':=by
 have h:=(DevB.of g).c3;clear g
 go_enter Tryz.func99,Tryz.ntmps99
 go_wp2_with fail
 refine(Tryz.strings_HasPrefix d.orig s _).mono ?_;rintro e o ⟨rfl,rfl⟩
 go_wp2_with fail
 go_ret;exact⟨rfl,rfl⟩
theorem zKb (f b:Nat)(d:Dev)(w:World)(z:w.heap[f]?=some (.cells d.vals 36))(J:w.heap[b]?=some (.cells #[.string ⟨#[109,100,45]⟩,.string ⟨#[111,112,101,110,45]⟩,.string ⟨#[108,118,45]⟩] 9)):
  Calls Tryz.prog 33 #[.slice (some ⟨b,0,none⟩) 3 3,.func (.func 99) #[] #[.pointer (some ⟨f,0,none⟩)]] w fun e w'=>e=.returned (.bool (preB d.orig))/\Fr No w w':=by
 obtain⟨V,X,Y⟩:=cl3 J;have L:=zh (zFQ f d ⟨#[109,100,45]⟩ w z);have N:=zh (zFQ f d ⟨#[111,112,101,110,45]⟩ w z);have O:=zh (zFQ f d ⟨#[108,118,45]⟩ w z);have A:Hid (preB d.orig=(Lib.hasPrefix d.orig.data.toList [109,100,45]||Lib.hasPrefix d.orig.data.toList [111,112,101,110,45]||Lib.hasPrefix d.orig.data.toList [108,118,45])):=rfl;generalize preB d.orig=pb at *;have C:Hid (Calls Tryz.prog 99 #[.string ⟨#[109,100,45]⟩,.pointer (some ⟨f,0,none⟩)] w fun e w'=>e=.returned (.bool (Lib.hasPrefix d.orig.data.toList [109,100,45]))/\w=w'):=L.out;have D:Hid (Calls Tryz.prog 99 #[.string ⟨#[111,112,101,110,45]⟩,.pointer (some ⟨f,0,none⟩)] w fun e w'=>e=.returned (.bool (Lib.hasPrefix d.orig.data.toList [111,112,101,110,45]))/\w=w'):=N.out;have F:Hid (Calls Tryz.prog 99 #[.string ⟨#[108,118,45]⟩,.pointer (some ⟨f,0,none⟩)] w fun e w'=>e=.returned (.bool (Lib.hasPrefix d.orig.data.toList [108,118,45]))/\w=w'):=O.out;clear L N O z J;generalize Lib.hasPrefix d.orig.data.toList [109,100,45]=p0 at *;generalize Lib.hasPrefix d.orig.data.toList [111,112,101,110,45]=p1 at *;generalize Lib.hasPrefix d.orig.data.toList [108,118,45]=p2 at *;refine(show Calls Tryz.prog 33 _ _ (fun e w'=>e=.returned (.bool pb)/\w'=w)from ?_).mono (fun e w' h=>⟨h.1,by rw[h.2];exact Fr.refl _ _⟩);have o:Calls Tryz.prog 69 #[.slice (some ⟨b,0,none⟩) 3 3,.func (.func 99) #[] #[.pointer (some ⟨f,0,none⟩)]] w fun e w'=>(∃ r:Int,e=.returned (.int .i64 r)/\decide (0<=r)=pb)/\w'=w:=by
  go_enter Tryz.func69,Tryz.ntmps69
  go_wp2_with fail
  go_loopw [8] (fun i wr=>wr=w/\((i=.int .i64 0)\/(i=.int .i64 1/\p0=false)\/(i=.int .i64 2/\p0=false/\p1=false)\/(i=.int .i64 3/\p0=false/\p1=false/\p2=false))) (fun i _=>3-(intOf i).toNat)
  case atStart=>exact⟨rfl,.inl rfl⟩
  case round=>
   obtain⟨rfl,h⟩:=hrel;rcases h with rfl | ⟨rfl,q⟩ | ⟨rfl,q,v⟩ | ⟨rfl,q,v,R⟩
   ·go_wp2_with fail
    refine C.out.mono ?_;rintro e I ⟨rfl,rfl⟩;cases hq:p0 with
    | true=>
     have u:Hid (pb=true):=by unfold Hid;rw[A.out,hq];rfl
     clear hq
     go_wp2_with fail
     go_ret;exact⟨⟨0,rfl,by rw[u.out];rfl⟩,rfl⟩
    | false=>
     have y:=zh hq;clear hq
     go_wp2_with fail
     go_roundw
     case rel=>exact⟨trivial,.inr (.inl ⟨rfl,y.out⟩)⟩
     case measure=>simp[intOf]
   ·have g:=zh q;clear q
    go_wp2_with fail
    refine D.out.mono ?_;rintro e I ⟨rfl,rfl⟩;cases hq:p1 with
    | true=>
     have u:Hid (pb=true):=by unfold Hid;rw[A.out,hq];simp
     clear hq
     go_wp2_with fail
     go_ret;exact⟨⟨1,rfl,by rw[u.out];rfl⟩,rfl⟩
    | false=>
     have y:=zh hq;clear hq
     go_wp2_with fail
     go_roundw
     case rel=>exact⟨trivial,.inr (.inr (.inl ⟨rfl,g.out,y.out⟩))⟩
     case measure=>simp[intOf]
   ·have g:=zh (And.intro q v);clear q v
    go_wp2_with fail
    refine F.out.mono ?_;rintro e I ⟨rfl,rfl⟩;cases hq:p2 with
    | true=>
     have u:Hid (pb=true):=by unfold Hid;rw[A.out,hq];simp
     clear hq
     go_wp2_with fail
     go_ret;exact⟨⟨2,rfl,by rw[u.out];rfl⟩,rfl⟩
    | false=>
     have y:=zh hq;clear hq
     go_wp2_with fail
     go_roundw
     case rel=>exact⟨trivial,.inr (.inr (.inr ⟨rfl,g.out.1,g.out.2,y.out⟩))⟩
     case measure=>simp[intOf]
   ·have u:Hid (pb=false):=by unfold Hid;rw[A.out,q,v,R];rfl
    clear q v R
    go_wp2_with fail
    go_ret;exact⟨⟨-1,rfl,by rw[u.out];rfl⟩,rfl⟩
 clear V X Y
 go_enter Tryz.func33,Tryz.ntmps33
 go_wp2_with fail
 refine o.mono ?_;rintro e I ⟨⟨r,rfl,U⟩,rfl⟩;have Z:=zh U;clear U o
 go_wp2_with fail
 go_ret;exact⟨zK Z.out,rfl⟩
theorem zCE (a:Option Addr)(f:Nat)(ds:List Dev)(g:Nat)(n:Int)(w:World)(hl:Tr w g a f ds)(hE:ErrV w):
  Calls Tryz.prog 61 #[.agg #[.slice a ds.length f],.int .i64 n] w fun e w'=>e=.returned (.bool (virB ds n))/\Fr No w w':=by
 obtain⟨L,y⟩:∃ L,L=w.alloc (.cells #[.slice a ds.length f] 48):=⟨_,rfl⟩
 have hx:Fr No w L:=by rw[y];exact(Fr.refl _ _).alloc _
 have q0:L.heap[w.heap.size]?=some (.cells #[.slice a ds.length f] 48):=by rw[y];exact zD _ _
 have t0:L.cell? ⟨w.heap.size,0,none⟩=some (.slice a ds.length f):=zB q0 0;have h:=zBG a f ds g n L (hl.no hx);have D:=zh (fun (W:World) (hf:Fr No w W)=>zLn a f ds g n W (hl.no hf) (hE.no hf));obtain⟨A,F⟩:∃ A,A=virB ds n:=⟨_,rfl⟩
 rw[<-F];have O:=zh F;clear F hl hE
 go_enter Tryz.func61,Tryz.ntmps61
 go_upto_region 1 with(fail)
 rw[<-y];clear y
 go_wp2_with fail
 refine h.mono ?_;rintro e R ⟨hF,U⟩;have q1:=U.heap q0 id;have x1:=hx.step U zi;clear t0 q0 h;rcases hF with⟨o,rfl⟩ | ⟨d,I,J,la,o,rfl,-⟩
 ·have Hv:Hid (A=false):=by unfold Hid;rw[O.out];unfold virB;rw[o]
  have V:Fr No w (R.alloc (.cells (Dev.vals Dev.zero) 36)):=x1.alloc _;have Hx:=zh V;clear V o;unfold Dev.vals Dev.zero at *
  go_wp2_with fail
  go_ret;exact⟨zK Hv.out.symm,Hx.out⟩
 ·have Hv:Hid (A=((partOf ds n).isSome||(d.parent==0&&preB d.orig))):=by unfold Hid;rw[O.out];unfold virB;rw[o]
  obtain⟨N,q⟩:∃ N,N=R.alloc (.cells (Dev.vals { d with aa:=I,ac:=J }) 36):=⟨_,rfl⟩
  have f2:Fr No R N:=by rw[q];exact(Fr.refl _ _).alloc _
  have b2:N.heap[R.heap.size]?=some (.cells (Dev.vals { d with aa:=I,ac:=J }) 36):=by rw[q];exact zD _ _
  have q2:=f2.heap q1 id;have x2:=x1.step f2 zi;have t0:N.cell? ⟨w.heap.size,0,none⟩=some (.slice a ds.length f):=zB q2 0;have u:=D.out N x2;clear o q1;unfold Dev.vals at q ⊢
  go_upto_region 4 with(fail)
  rw[<-q];clear q
  go_wp2_with fail
  refine u.mono ?_;rintro e w3 ⟨hP,X⟩;unfold zAJ at hP;subst hP;have b3:=X.heap b2 id;have x3:=x2.step X zi;clear t0 u b2 q2;obtain⟨c0,c1,c2,c3,c4,c5,c6,c7,c8,c9⟩:=DevB.of b3;simp only at c1;generalize (partOf ds n).getD 0=pv at *;rcases hp:(partOf ds n).isSome with _ | _
  ·have Y:Hid (A=(d.parent==0&&preB d.orig)):=by unfold Hid;rw[Hv.out,hp];rfl
   rcases hq:(d.parent==0)with _ | _
   ·have v:Hid (A=false):=by unfold Hid;rw[Y.out,hq];rfl
    go_wp2_with fail
    go_ret;exact⟨zK v.out.symm,x3⟩
   ·have v:Hid (A=preB d.orig):=by unfold Hid;rw[Y.out,hq];rfl
    obtain⟨Z,z⟩:∃ Z,Z=w3.alloc (.cells #[.string ⟨#[109,100,45]⟩,.string ⟨#[111,112,101,110,45]⟩,.string ⟨#[108,118,45]⟩] 9):=⟨_,rfl⟩
    have f4:Fr No w3 Z:=by rw[z];exact(Fr.refl _ _).alloc _
    have b4:Z.heap[w3.heap.size]?=some (.cells #[.string ⟨#[109,100,45]⟩,.string ⟨#[111,112,101,110,45]⟩,.string ⟨#[108,118,45]⟩] 9):=by rw[z];exact zD _ _
    have C:=zKb R.heap.size w3.heap.size { d with aa:=I,ac:=J } Z (f4.heap b3 id) b4;clear b3
    go_wp2_with fail
    rw[<-z];clear z;refine C.mono ?_;rintro e w5 ⟨rfl,a2⟩;have Hx:=zh ((x3.step f4 zi).step a2 zi);clear C f4 a2 b4
    go_wp2_with fail
    go_ret;exact⟨zK v.out.symm,Hx.out⟩
  ·have v:Hid (A=true):=by unfold Hid;rw[Hv.out,hp];rfl
   go_wp2_with fail
   go_ret;exact⟨zK v.out.symm,x3⟩
def ignB : ByteArray:=⟨#[83,84,79,82,65,71,69,95,73,71,78,79,82,69]⟩
def cntB (ds:List Dev)(L:List Rec)(n:Int):Bool:=match look ds n with
 | none=>false
 | some d=>match L.find? (Rec.is n (pathOf (origin ds n)))with
  | none=>false
  | some r=>d.kind==2&&!((getP r.props ignB).toList==[49])
theorem zKD (a ra:Option Addr)(f rc:Nat)(ds:List Dev)(L:List Rec)(C:Nat)(n:Int)(w:World)(hl:Tr w C a f ds)(hn:ds.length<=1000)(hx:(Lit.int .i64 n).wf=true)(hr:Recs w ra rc L):
  Calls Tryz.prog 60 #[.agg #[.slice a ds.length f],.slice ra L.length rc,.int .i64 n] w fun e w'=>e=.returned (.bool (cntB ds L n))/\Fr No w w':=by
 obtain⟨V,A⟩:∃ V,V=w.alloc (.cells #[.slice a ds.length f] 48):=⟨_,rfl⟩
 have x0:Fr No w V:=by rw[A];exact(Fr.refl _ _).alloc _
 have q0:V.heap[w.heap.size]?=some (.cells #[.slice a ds.length f] 48):=by rw[A];exact zD _ _
 have t0:V.cell? ⟨w.heap.size,0,none⟩=some (.slice a ds.length f):=zB q0 0;have q:=zBG a f ds C n V (hl.no x0);have a2:=zh (fun (W:World) (hf:Fr No w W)=>zA5 a f ds n W (hl.dv.no hf (fun _=>id)) hl.wf.ok hn hx);have a3:=zh (fun (W:World) (hf:Fr No w W) (p:ByteArray)=>zJZ ra rc L n p W (hr.no hf (fun _=>id)));have a7:=zh (fun (W:World) (hf:Fr No w W)=>hr.no hf (fun _=>id));have b9:=hr.lenmax;obtain⟨D,F⟩:∃ D,D=cntB ds L n:=⟨_,rfl⟩
 rw[<-F];have a8:=zh F;clear F hl hr hx
 go_enter Tryz.func60,Tryz.ntmps60
 go_upto_region 1 with(fail)
 rw[<-A];clear A
 go_wp2_with fail
 refine q.mono ?_;rintro e w1 ⟨hF,I⟩;clear t0 q;obtain⟨J,X,rfl,a4⟩:∃ J X,e=.returned (.tuple #[.agg (Dev.vals J),.bool X])/\((look ds n=none/\X=false)\/∃ d,look ds n=some d/\X=true/\J.kind=d.kind):=by
  rcases hF with⟨N,rfl⟩ | ⟨d,a9,b0,la,N,rfl,-⟩
  ·exact⟨Dev.zero,false,rfl,.inl ⟨N,rfl⟩⟩
  ·exact⟨{ d with aa:=a9,ac:=b0 },true,rfl,.inr ⟨d,N,rfl,rfl⟩⟩
 have b1:=zh a4;clear a4 hF;obtain⟨Y,u⟩:∃ Y,Y=w1.alloc (.cells (Dev.vals J) 36):=⟨_,rfl⟩
 have f2:Fr No w1 Y:=by rw[u];exact(Fr.refl _ _).alloc _
 have b2:Y.heap[w1.heap.size]?=some (.cells (Dev.vals J) 36):=by rw[u];exact zD _ _
 have q2:=f2.heap (I.heap q0 id) id;have x2:=(x0.step I zi).step f2 zi;have t0:Y.cell? ⟨w.heap.size,0,none⟩=some (.slice a ds.length f):=zB q2 0;have v:=a2.out Y x2;have b6:Hid (plc ds n=((look ds n).map fun _=>pathOf (origin ds n)).getD ⟨#[]⟩):=rfl;rw[<-b6.out]at v;clear q0 I f2;unfold Dev.vals at u ⊢
 go_upto_region 2 with(fail)
 rw[<-u];clear u
 go_wp2_with fail
 refine v.mono ?_;rintro e w3 ⟨rfl,O⟩;have b3:=O.heap b2 id;have x3:=x2.step O zi;have y:=a3.out w3 x3 (plc ds n);clear t0 v b2 q2;generalize (look ds n).isSome=lks at *;obtain⟨P,hP⟩:∃ P,P=plc ds n:=⟨_,rfl⟩
 rw[<-hP]at y ⊢;have HP:=zh hP;clear hP
 go_wp2_with fail
 refine y.mono ?_;rintro e Z ⟨hR,R⟩;have b4:=R.heap b3 id;have x4:=x3.step R zi;clear y b3;obtain⟨r,kn,rfl,a5,a6⟩:∃ r kn,e=.returned (.tuple #[.agg (Rec.vals r),.bool kn])/\RecOk Z r/\((L.find? (Rec.is n P)=none/\kn=false)\/(L.find? (Rec.is n P)=some r/\kn=true)):=by
  cases hq:L.find? (Rec.is n P)with
  | none=>rw[hq]at hR;exact⟨Rec.zero,false,hR,RecOk.zero Z,.inl ⟨rfl,rfl⟩⟩
  | some r=>rw[hq]at hR;exact⟨r,true,hR,((a7.out Z x4).ok r (List.mem_of_find?_eq_some hq)),.inr ⟨rfl,rfl⟩⟩
 obtain⟨W5,z⟩:∃ W5,W5=Z.alloc (.cells (Rec.vals r) 89):=⟨_,rfl⟩
 have f5:Fr No Z W5:=by rw[z];exact(Fr.refl _ _).alloc _
 have r5:W5.heap[Z.heap.size]?=some (.cells (Rec.vals r) 89):=by rw[z];exact zD _ _
 have b5:=f5.heap b4 id;have x5:=x4.step f5 zi;have h:=zHB r ignB W5 (a5.no f5 (fun _=>id));have b7:=zh a6;clear hR a6 a5 b4 R f5 O;unfold Rec.vals at z h ⊢;unfold ignB at h;have Hg:Hid (getP r.props ignB=getP r.props ⟨#[83,84,79,82,65,71,69,95,73,71,78,79,82,69]⟩):=rfl;rw[<-Hg.out]at h
 go_upto_region 4 with(fail)
 rw[<-z];clear z;obtain⟨c0,c1,c2,c3,c4,c5,c6,c7,c8,c9⟩:=DevB.of b5;obtain⟨e0,e1,e2,e3,e4,e5,e6,e7,e8,e9,d0,d1⟩:=cl12 r5;have o:Hid (D=(X&&kn&&(J.kind==2)&&!((getP r.props ignB).toList==[49]))):=by
  unfold Hid;rw[a8.out];unfold cntB;rcases b1.out with⟨h1,h2⟩ | ⟨d,h1,h2,h3⟩
  ·rw[h1,h2];rfl
  ·have hp:P=pathOf (origin ds n):=by rw[HP.out];unfold plc;rw[h1];rfl
   rw[h1,h2,<-hp];simp only;rcases b7.out with⟨k1,k2⟩ | ⟨k1,k2⟩
   ·rw[k1,k2];rfl
   ·rw[k1,k2,h3];simp
 generalize getP r.props ignB=g at *;clear b5 r5;cases X with
 | false=>
  have U:Hid (D=false):=by unfold Hid;rw[o.out];rfl
  go_wp2_with fail
  go_ret;exact⟨zK U.out.symm,x5⟩
 | true=>
  cases kn with
  | false=>
   have U:Hid (D=false):=by unfold Hid;rw[o.out];rfl
   go_wp2_with fail
   go_ret;exact⟨zK U.out.symm,x5⟩
  | true=>
   rcases hk:(J.kind==2)with _ | _
   ·have U:Hid (D=false):=by unfold Hid;rw[o.out,hk];rfl
    go_wp2_with fail
    go_ret;exact⟨zK U.out.symm,x5⟩
   ·have U:Hid (D=!(g.toList==[49])):=by unfold Hid;rw[o.out,hk];rfl
    go_wp2_with fail
    refine h.mono ?_;rintro e w6 ⟨rfl,b8⟩
    go_wp2_with fail
    go_ret;exact⟨zK U.out.symm,x5.step b8 zi⟩
theorem zEb (a:Option Addr)(f:Nat)(ds:List Dev)(d:Dev)(w:World)(J:Devs w a f ds)(L:TreeOk ds)(V:ds.length<=1000)(N:(Lit.int .i64 d.parent).wf=true):
  Calls Tryz.prog 115 #[.agg #[.slice a ds.length f],.agg d.vals] w fun e w'=>e=.returned (.agg #[.string (plc ds d.parent),.string d.orig])/\Fr No w w':=by
 obtain⟨q,g⟩:∃ q,q=((w.alloc (.cells #[.slice a ds.length f] 48)).alloc (.cells d.vals 36)).alloc (.cells #[.string ⟨#[]⟩,.string ⟨#[]⟩] 132):=⟨_,rfl⟩
 have z:Fr No ((w.alloc (.cells #[.slice a ds.length f] 48)).alloc (.cells d.vals 36)) q:=by rw[g];exact(Fr.refl _ _).alloc _
 have y:Fr No w q:=by rw[g];exact(((Fr.refl _ _).alloc _).alloc _).alloc _
 have O:=z.heap (zI w (.cells #[.slice a ds.length f] 48) (.cells d.vals 36)) id;have A:=z.heap (zL w (.cells #[.slice a ds.length f] 48) (.cells d.vals 36)) id;have R:q.heap[w.heap.size+1+1]?=some (.cells #[.string ⟨#[]⟩,.string ⟨#[]⟩] 132):=by
  have:=zD ((w.alloc (.cells #[.slice a ds.length f] 48)).alloc (.cells d.vals 36)) (.cells #[.string ⟨#[]⟩,.string ⟨#[]⟩] 132);rw[World.size_alloc,World.size_alloc]at this;rw[g];exact this
 have X:q.cell? ⟨w.heap.size,0,none⟩=some (.slice a ds.length f):=zB O 0;have Y:=(DevB.of A).c1;have o:=zA5 a f ds d.parent q (J.no y (fun _=>id)) L V N;have C:Hid (plc ds d.parent=((look ds d.parent).map fun _=>pathOf (origin ds d.parent)).getD ⟨#[]⟩):=rfl;rw[<-C.out]at o;generalize plc ds d.parent=P at *;generalize (look ds d.parent).isSome=lks at *;clear z J L N;unfold Dev.vals at g ⊢
 go_enter Tryz.func115,Tryz.ntmps115
 go_upto_region 1 with(fail)
 rw[<-g];clear g
 go_wp2_with fail
 refine o.mono ?_;rintro e Z ⟨rfl,u⟩;have U:=u.heap A id;have D:=u.heap R id;have c3:=(DevB.of U).c3;obtain⟨z0,z1⟩:=cl2 D;obtain⟨y0,y1⟩:=fl2 D;have x1:=y.step u zi;have Hx:Hid (∀ F I,Fr No w ((Z.setCell ⟨w.heap.size+1+1,0,none⟩ F).setCell ⟨w.heap.size+1+1,1,none⟩ I)):=fun F I=>x1.step (T:=Is (w.heap.size+1+1)) (((Fr.refl _ _).setAt F).setAt I) (fun b hb h=>by unfold Is at h;omega)
 clear o X Y O A R U D
 go_wp2_with fail
 refine bodyPost_ret (v:=.agg #[.string P,.string d.orig]) (by simp[results,Tryz.results115,go_sem,z0,z1]) rfl ?_;exact⟨rfl,Hx.out _ _⟩
end Go.Proofs.YtinfjnndbfahhaaGreatDoor
