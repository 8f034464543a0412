import Derived.Test.YtmajgldaplkpiaaGreatDoorQ3
import Derived.Test.YtmajgldaplkpiaaGreatDoorQ4
import Derived.Maps.StringElems
namespace Go.Proofs.YtmajgldaplkpiaaGreatDoor
open Go.RowKit Go.Maps
set_option linter.unusedVariables false
set_option maxRecDepth 100000
set_option maxHeartbeats 4000000
theorem strEq (x y:ByteArray):(x.toList==y.toList)=decide (x=y):=by
 rw[ByteArray.toList_eq,ByteArray.toList_eq,Bool.eq_iff_iff,decide_eq_true_iff];constructor
 ·intro h;cases x;cases y;have:=eq_of_beq h;simp only at this
  congr 1
  exact Array.toList_inj.1 this
 ·rintro rfl;simp
theorem zAs : ∀ (a b:List UInt8),Lib.compareBytes a b=0->a=b
 | [],[],_=>rfl
 | [],_::_,h=>by simp[Lib.compareBytes]at h
 | _::_,[],h=>by simp[Lib.compareBytes]at h
 | a::s,b::t,h=>by
  unfold Lib.compareBytes at h;split at h
  ·simp at h
  ·rename_i h1;split at h
   ·simp at h
   ·rename_i h2;have:a=b:=by
     have h3:=UInt8.not_lt.1 h1;have h4:=UInt8.not_lt.1 h2;exact UInt8.le_antisymm h4 h3
    rw[this,zAs s t h]
def cmpN : List ByteArray->List ByteArray->Int
 | [],[]=>0
 | [],_::_=>-1
 | _::_,[]=>1
 | a::s,b::t=>if a=b then cmpN s t else Lib.compareBytes a.data.toList b.data.toList
theorem zEi : ∀ (a:List ByteArray) (x:ByteArray),cmpN a (a++[x])=-1
 | [],_=>rfl
 | a::s,x=>by
  show cmpN (a::s) (a::(s++[x]))=-1
  unfold cmpN;rw[if_pos rfl];exact zEi s x
theorem zF4 : ∀ (p a b:List ByteArray),cmpN (p++a) (p++b)=cmpN a b
 | [],_,_=>rfl
 | x::p,a,b=>by
  show cmpN (x::(p++a)) (x::(p++b))=_
  rw[cmpN,if_pos rfl];exact zF4 p a b
theorem zBI {a b:List ByteArray}{k:Nat}(h:a.take k=b.take k):cmpN a b=cmpN (a.drop k) (b.drop k):=by
 have h1:=zF4 (a.take k) (a.drop k) (b.drop k);rw[List.take_append_drop,h,List.take_append_drop]at h1;exact h1
theorem zEy (a:Option Addr)(cap:Nat)(l:List ByteArray)(a':Option Addr)(cap':Nat)(l':List ByteArray)(w:World)(hl:Strs w a cap l)(hl':Strs w a' cap' l'):
  Calls Tryz.prog 36 #[.slice a l.length cap,.slice a' l'.length cap'] w fun e w'=>e=.returned (.int .i64 (cmpN l l'))/\Fr No w w':=by
 have hm:=hl.lenmax;have hm':=hl'.lenmax
 go_enter Tryz.func36,Tryz.ntmps36
 go_wp2
 go_loopw [5] (fun i wr=>∃ k:Nat,k<=l.length/\k<=l'.length/\i=.int .i64 k/\Hid (l.take k=l'.take k)/\Fr No w wr) (fun i _=>l.length-(intOf i).toNat)
 case atStart=>exact⟨0,by omega,by omega,rfl,by unfold Hid;simp,Fr.refl _ _⟩
 case round=>
  obtain⟨k,hk,hk',rfl,hno,hfr⟩:=hrel;by_cases hlt:k<l.length
  ·by_cases hlt':k<l'.length
   ·have hlr:=hl.no hfr (fun _ h=>h);have hlr':=hl'.no hfr (fun _ h=>h);obtain⟨b,off,x,rfl,hx,hc⟩:=hlr.at hlt;have Hx:=Lib.hid hx;clear hx;obtain⟨b',off',x',rfl,hx',hc'⟩:=hlr'.at hlt';have Hx':=Lib.hid hx';clear hx';have hd:Hid (l.drop k=x::l.drop (k+1)):=by
     have:=Hx.out;unfold Hid;rw[List.drop_eq_getElem_cons hlt];rw[List.getElem?_eq_getElem hlt]at this;rw[Option.some.inj this]
    have hd':Hid (l'.drop k=x'::l'.drop (k+1)):=by
     have:=Hx'.out;unfold Hid;rw[List.drop_eq_getElem_cons hlt'];rw[List.getElem?_eq_getElem hlt']at this;rw[Option.some.inj this]
    by_cases hxn:x=x'
    ·subst hxn;have hn:Hid (l.take (k+1)=l'.take (k+1)):=by
      unfold Hid;rw[List.take_add_one,List.take_add_one,hno.out,Hx.out,Hx'.out]
     go_wp2
     go_quiet (fail)
     go_wp2
     go_roundw
     case rel=>exact⟨k+1,by omega,by omega,by go_num,hn,hfr.drewN _⟩
     case measure=>simp[intOf];omega
    ·have hres:Hid (Lib.compareBytes x.data.toList x'.data.toList=cmpN l l'):=by
      unfold Hid;rw[zBI hno.out,hd.out,hd'.out,cmpN,if_neg hxn]
     have hb:(!x.toList==x'.toList)=true:=by rw[strEq,decide_eq_false hxn];rfl
     clear hxn;go_wp2
     go_quiet (fail)
     go_wp2;refine zR No [(0,false),(1,false),(2,false),(3,false),(4,false),(5,false),(6,false),(7,false),(8,true),(9,false)] (by kernel_rfl) (by kernel_rfl) (fun w0 hf0=>?_);have hf1:=(hfr.drewN _).step hf0 (fun _ _ h=>h);have c0:∀ g:Gr No w0,g.W.cell? ⟨b,off+k,none⟩=some (.string x):=fun g=>g.fr.cell (hf0.cell hc id) id
     have c1:∀ g:Gr No w0,g.W.cell? ⟨b',off'+k,none⟩=some (.string x'):=fun g=>g.fr.cell (hf0.cell hc' id) id
     repeat (apply zT;exact rfl;exact rfl;exact rfl;intro K hK;go_big_quiet_op;go_big_quiet_on)
     apply zi;exact rfl
     go_wp2_with fail
     refine(Tryz.strings_Compare x x' _).mono ?_;rintro e w1 ⟨rfl,rfl⟩
     go_wp2_with fail
     refine OnlyN.mk ⟨Fr.refl _ _,?_⟩
     repeat (apply zT;exact rfl;exact rfl;exact rfl;intro K hK;go_big_quiet_op;go_big_quiet_on)
     refine zb ?_
     go_wp2_with fail
     go_ret;exact⟨zAI hres.out,hf1⟩
   ·have h:=hno.out;have he:k=l'.length:=by omega
    have hres:Hid ((1:Int)=cmpN l l'):=by
     unfold Hid;rw[zBI h,List.drop_eq_getElem_cons hlt,List.drop_of_length_le (by omega:l'.length<=k)];simp[cmpN]
    have hgt:l'.length<l.length:=by omega
    clear h he;go_wp2;go_ret;exact⟨zAI hres.out,hfr⟩
  ·have h:=hno.out;have he:k=l.length:=by omega
   by_cases hlt':k<l'.length
   ·have hres:Hid ((-1:Int)=cmpN l l'):=by
     unfold Hid;rw[zBI h,List.drop_eq_getElem_cons hlt',List.drop_of_length_le (by omega:l.length<=k)];simp[cmpN]
    have hgt:l.length<l'.length:=by omega
    clear h he;go_wp2;go_ret;exact⟨zAI hres.out,hfr⟩
   ·have hres:Hid ((0:Int)=cmpN l l'):=by
     unfold Hid;rw[zBI h,List.drop_of_length_le (by omega),List.drop_of_length_le (by omega)];simp[cmpN]
    have hgt:¬ l.length<l'.length:=by omega
    have hgt':¬ l'.length<l.length:=by omega
    clear h he;go_wp2;go_ret;exact⟨zAI hres.out,hfr⟩
theorem zEJ (s u:ByteArray)(w:World)(hs:s.size<=3000000)(hu:u.size<=3000000):
  Calls Tryz.prog 75 #[.string s,.string u] w fun e w'=>RetB e/\w=w':=by
 go_enter Tryz.func75,Tryz.ntmps75
 go_wp2_with fail
 refine(Tryz.strings_HasPrefix u _ _).mono ?_;rintro e w1 ⟨rfl,rfl⟩
 go_wp2_with fail
 go_ret;exact⟨RetB.mk _,rfl⟩
structure DevB (W:World)(b:Nat)(d:Dev):Prop where
 c0:W.cell? ⟨b,0,none⟩=some (.int .i64 d.index)
 c1:W.cell? ⟨b,1,none⟩=some (.int .i64 d.parent)
 c2:W.cell? ⟨b,2,none⟩=some (.string d.name)
 c3:W.cell? ⟨b,3,none⟩=some (.string d.orig)
 c4:W.cell? ⟨b,4,none⟩=some (.string d.sub)
 c5:W.cell? ⟨b,5,none⟩=some (.string d.drv)
 c6:W.cell? ⟨b,6,none⟩=some (.string d.ali)
 c7:W.cell? ⟨b,7,none⟩=some (.int .i64 d.kind)
 c8:W.cell? ⟨b,8,none⟩=some (.int .i64 d.num)
 c9:W.cell? ⟨b,9,none⟩=some (.slice d.aa d.an d.ac)
theorem DevB.of {W:World}{b:Nat}{d:Dev}{T:TypeId}{fz:Nat×Nat}(h:W.heap[b]?=some (.cells d.vals T fz)):DevB W b d:=
 ⟨zB h 0,zB h 1,zB h 2,zB h 3,zB h 4,zB h 5,zB h 6,zB h 7,zB h 8,zB h 9⟩
structure DevF (W:World)(b:Nat):Prop where
 f0:W.frozen? ⟨b,0,none⟩=false
 f1:W.frozen? ⟨b,1,none⟩=false
 f2:W.frozen? ⟨b,2,none⟩=false
 f3:W.frozen? ⟨b,3,none⟩=false
 f4:W.frozen? ⟨b,4,none⟩=false
 f5:W.frozen? ⟨b,5,none⟩=false
 f6:W.frozen? ⟨b,6,none⟩=false
 f7:W.frozen? ⟨b,7,none⟩=false
 f8:W.frozen? ⟨b,8,none⟩=false
 f9:W.frozen? ⟨b,9,none⟩=false
theorem DevF.of {W:World}{b:Nat}{cs:Array Value}{T:TypeId}(h:W.heap[b]?=some (.cells cs T)):DevF W b:=
 ⟨zC h 0,zC h 1,zC h 2,zC h 3,zC h 4,zC h 5,zC h 6,zC h 7,zC h 8,zC h 9⟩
theorem zD4 (x lo hi:Int)(w:World):
  Calls Tryz.prog 193 #[.int .i64 x,.int .i64 lo,.int .i64 hi] w fun e w'=>e=.returned (.bool (decide (lo<=x)&&decide (x<=hi)))/\w=w':=by
 by_cases h1:lo<=x
 ·have H1:=Lib.hid h1
  go_enter Tryz.func193,Tryz.ntmps193
  go_wp2_with fail
  all_goals (go_ret;exact⟨zK (by rw[decide_eq_true H1.out];rfl),rfl⟩)
 ·have H1:=Lib.hid h1
  go_enter Tryz.func193,Tryz.ntmps193
  go_wp2_with fail
  all_goals (go_ret;exact⟨zK (by rw[decide_eq_false (by have:=H1.out;omega)];rfl),rfl⟩)
def numK (k:Int):Bool:=k==2||k==3
theorem zDe (k:Int)(w:World):
  Calls Tryz.prog 247 #[.int .i64 k] w fun e w'=>e=.returned (.bool (numK k))/\w=w':=by
 rcases h1:(k==2)with _ | _
 ·have H:Hid (numK k=(k==3)):=by unfold Hid numK;rw[h1];rfl
  go_enter Tryz.func247,Tryz.ntmps247
  go_wp2_with fail
  all_goals (go_ret;exact⟨zK H.out.symm,rfl⟩)
 ·have H:Hid (numK k=true):=by unfold Hid numK;rw[h1];rfl
  go_enter Tryz.func247,Tryz.ntmps247
  go_wp2_with fail
  all_goals (go_ret;exact⟨zK H.out.symm,rfl⟩)
def nodeOf (s:ByteArray):ByteArray:=⟨(Lib.replaceAll s.data.toList [33] [47]).toArray⟩
theorem zCu (s:ByteArray)(hs:s.size<=1000000):(nodeOf s).size<=3000000:=by
 have h:=zBX s.data.toList [33] [47];have e1:s.data.toList.length=s.size:=Array.length_toList;rw[e1]at h;simp only[List.length_cons,List.length_nil]at h;show (Array.size (List.toArray _))<=_
 rw[List.size_toArray];omega
def nodeR (d:Dev):ByteArray:=if numK d.kind=true then nodeOf d.orig else ⟨#[]⟩
theorem zDY (d:Dev)(hs:d.orig.size<=1000000):(nodeR d).size<=3000000:=by
 unfold nodeR;split
 ·exact zCu _ hs
 ·show (0:Nat)<=_;omega
theorem zHt (d:Dev)(m:Int)(w:World)(hs:d.orig.size<=1000000)(hm:w.cell? ⟨0,0,none⟩=some (.int .i64 m))(h0:0<w.heap.size):
  Calls Tryz.prog 198 #[.agg d.vals] w fun e w'=>e=.returned (.tuple #[.string (nodeR d),.bool (numK d.kind)])/\Fr No w w':=by
 have hx:Fr No w (w.alloc (.cells d.vals 34)):=(Fr.refl _ _).alloc _;have hmx:=hx.cell hm id;have hcount:=Lib.countB_le ⟨#[33]⟩ (by decide) _ d.orig (Nat.le_refl _);have hcount2:d.orig.size+Lib.countB d.orig ⟨#[33]⟩*(⟨#[47]⟩:ByteArray).size<=140737488355328:=by
  show d.orig.size+Lib.countB d.orig ⟨#[33]⟩*1<=_
  omega
 have Hcount:=Lib.hid hcount2;clear hcount hcount2;obtain⟨rs,hrs⟩:∃ rs,rs=nodeR d:=⟨_,rfl⟩
 rw[<-hrs];have Hrs:Hid (rs=if numK d.kind=true then nodeOf d.orig else ⟨#[]⟩):=hrs;clear hrs;unfold Dev.vals at *
 go_enter Tryz.func198,Tryz.ntmps198
 go_wp2_with fail
 refine(zDe _ _).mono ?_;rintro e w1 ⟨rfl,rfl⟩;rcases hk:numK d.kind with _ | _
 ·have Hv:Hid (rs=⟨#[]⟩):=by unfold Hid;rw[Hrs.out,hk];rfl
  have Hk:=Lib.hid hk;clear hk
  go_wp2_with fail
  refine bodyPost_ret (v:=.tuple #[.string ⟨#[]⟩,.bool false]) (by simp[results,Tryz.results198,go_sem]) rfl ?_;exact⟨by rw[Hv.out,Hk.out],hx⟩
 ·have Hv:Hid (rs=nodeOf d.orig):=by unfold Hid;rw[Hrs.out,hk];rfl
  have Hk:=Lib.hid hk;clear hk
  go_wp2_with fail
  refine(Tryz.strings_ReplaceAll d.orig ⟨#[33]⟩ ⟨#[47]⟩ m _ (by omega) hmx (by decide) Hcount.out).mono ?_;rintro e w1 ⟨rfl,hb⟩
  go_wp2_with fail
  refine bodyPost_ret (v:=.tuple #[.string ⟨(Lib.replaceAll d.orig.data.toList [33] [47]).toArray⟩,.bool true]) (by simp[results,Tryz.results198,go_sem]) rfl ?_;exact⟨by rw[Hv.out,Hk.out];rfl,hx.step (Fr.of_below_size hb) (fun _ _ h=>h)⟩
def textF : UInt8->Bool:=fun c=>!(decide ((c.toNat:Int)<32))&&!(decide (126<(c.toNat:Int)))
def zAk (s:ByteArray):Bool:=s.data.toList.all textF&&decide (s.size<=256)
theorem zET (s:ByteArray)(w:World)(hs:s.size<=maxLen):
  Calls Tryz.prog 189 #[.string s] w fun e w'=>e=.returned (.bool (zAk s))/\w=w':=by
 have hm:s.size<=9223372036854775807:=by unfold maxLen at hs;omega
 go_enter Tryz.func189,Tryz.ntmps189
 go_wp2
 go_loop [6] (fun i=>∃ k:Nat,k<=s.size/\i=.int .i64 k/\Hid ((s.data.toList.take k).all textF=true)) (fun i=>s.size-(intOf i).toNat)
 case atStart=>exact⟨0,by omega,rfl,by unfold Hid;simp⟩
 case round=>
  obtain⟨k,hk,rfl,hno⟩:=hrel;by_cases hlt:k<s.size
  ·have hx':s.data.toList[k]?=some s[k]:=by
    rw[Array.getElem?_toList];exact Array.getElem?_eq_getElem (by simpa using hlt)
   have Hx:=Lib.hid hx';clear hx';obtain⟨q,hq⟩:∃ q,q=s[k]:=⟨_,rfl⟩
   have H:Hid (textF q=(!(decide ((q.toNat:Int)<32))&&!(decide (126<(q.toNat:Int))))):=by unfold Hid;rfl
   have Hq:=Lib.hid hq;by_cases h1:((q.toNat:Nat):Int)<32
   ·have h1':((s[k].toNat:Nat):Int)<32:=by rw[<-hq];exact h1
    have Hn:Hid (textF q=false):=by unfold Hid;rw[H.out];simp only[h1,decide_true,Bool.not_true,Bool.false_and]
    clear hq h1;go_wp2;go_ret;exact⟨zK (by unfold zAk;rw[zGA _ _ _ _ Hx.out (by rw[<-Hq.out];exact Hn.out)];rfl),rfl⟩
   ·have h1':¬ ((s[k].toNat:Nat):Int)<32:=by rw[<-hq];exact h1
    by_cases h2:126<((q.toNat:Nat):Int)
    ·have h2':126<((s[k].toNat:Nat):Int):=by rw[<-hq];exact h2
     have Hn:Hid (textF q=false):=by unfold Hid;rw[H.out];simp only[h2,decide_true,Bool.not_true,Bool.and_false]
     clear hq h1 h2;go_wp2;go_ret;exact⟨zK (by unfold zAk;rw[zGA _ _ _ _ Hx.out (by rw[<-Hq.out];exact Hn.out)];rfl),rfl⟩
    ·have h2':¬ 126<((s[k].toNat:Nat):Int):=by rw[<-hq];exact h2
     have Hn:Hid (textF q=true):=by unfold Hid;rw[H.out];simp only[h1,h2,decide_false,Bool.not_false,Bool.and_self]
     clear hq h1 h2;go_wp2
     go_round
     case rel=>exact⟨k+1,by omega,by go_num,zA4 _ _ _ _ Hx.out hno.out (by rw[<-Hq.out];exact Hn.out)⟩
     case measure=>simp[intOf];omega
  ·have h:=hno.out;rw[List.take_of_length_le (by simp;omega)]at h;have Hp:=Lib.hid h;clear h;go_wp2;go_ret;exact⟨zK (by unfold zAk;rw[Hp.out];simp;omega),rfl⟩
def benB (s t:ByteArray):Bool:=Lib.hasPrefix t.data.toList (s++⟨#[47]⟩).data.toList
theorem zEV (s u:ByteArray)(w:World)(hs:s.size<=3000000)(hu:u.size<=3000000):
  Calls Tryz.prog 254 #[.string s,.string u] w fun e w'=>e=.returned (.bool (benB s u))/\w=w':=by
 have Hb:Hid (benB s u=Lib.hasPrefix u.data.toList (s++⟨#[47]⟩).data.toList):=rfl
 go_enter Tryz.func254,Tryz.ntmps254
 go_wp2_with fail
 refine(Tryz.strings_HasPrefix u _ _).mono ?_;rintro e w1 ⟨rfl,rfl⟩
 go_wp2_with fail
 go_ret;exact⟨zK Hb.out.symm,rfl⟩
def namedB (d:Dev):Bool:=isName d.name&&isName d.orig&&isName d.sub&&zAk d.ali
theorem zKH (d:Dev)(w:World)(hs:Sized d)(hd:d.drv=⟨#[]⟩):
  Calls Tryz.prog 194 #[.agg d.vals] w fun e w'=>e=.returned (.bool (namedB d))/\Fr No w w':=by
 obtain⟨ix,pa,nm,og,sb,dr,al,kd,nu,aa,an,ac⟩:=d;dsimp only at hd;subst hd;obtain⟨s1,s2,s3,-,s5⟩:=hs;have hx:Fr No w (w.alloc (.cells (Dev.vals ⟨ix,pa,nm,og,sb,⟨#[]⟩,al,kd,nu,aa,an,ac⟩) 34)):=(Fr.refl _ _).alloc _;have q0:=zD w (.cells (Dev.vals ⟨ix,pa,nm,og,sb,⟨#[]⟩,al,kd,nu,aa,an,ac⟩) 34);obtain⟨W0,hW0⟩:∃ W0,W0=w.alloc (.cells (Dev.vals ⟨ix,pa,nm,og,sb,⟨#[]⟩,al,kd,nu,aa,an,ac⟩) 34):=⟨_,rfl⟩
 rw[<-hW0]at hx q0;unfold Dev.vals at hW0 ⊢;dsimp only at hW0;obtain⟨rb,hrb⟩:∃ rb,rb=namedB ⟨ix,pa,nm,og,sb,⟨#[]⟩,al,kd,nu,aa,an,ac⟩:=⟨_,rfl⟩
 rw[<-hrb];have Hrb:Hid (rb=(isName nm&&isName og&&isName sb&&zAk al)):=hrb;clear hrb;obtain⟨c0,c1,c2,c3,c4,c5,c6,c7,c8,c9⟩:=DevB.of q0
 go_enter Tryz.func194,Tryz.ntmps194
 go_upto_region 1 with(fail)
 rw[<-hW0];clear hW0
 go_wp2_with fail
 refine(zAF nm _ s1).mono ?_;rintro e w1 ⟨rfl,hf1⟩;have q1:=hf1.heap q0 id;have hx1:=hx.step hf1 (fun _ _ h=>h);clear c0 c1 c2 c3 c4 c5 c6 c7 c8 c9 q0;obtain⟨c0,c1,c2,c3,c4,c5,c6,c7,c8,c9⟩:=DevB.of q1;rcases hb1:isName nm with _ | _
 ·have Hv:Hid (rb=false):=by unfold Hid;rw[Hrb.out,hb1];rfl
  clear hb1
  go_wp2_with fail
  go_ret;exact⟨zK Hv.out.symm,hx1⟩
 have H1:=Lib.hid hb1;clear hb1
 go_wp2_with fail
 refine(zAF og _ s2).mono ?_;rintro e w2 ⟨rfl,hf2⟩;have q2:=hf2.heap q1 id;have hx2:=hx1.step hf2 (fun _ _ h=>h);clear c0 c1 c2 c3 c4 c5 c6 c7 c8 c9 q1;obtain⟨c0,c1,c2,c3,c4,c5,c6,c7,c8,c9⟩:=DevB.of q2;rcases hb1:isName og with _ | _
 ·have Hv:Hid (rb=false):=by unfold Hid;rw[Hrb.out,hb1,Bool.and_false];rfl
  clear hb1
  go_wp2_with fail
  go_ret;exact⟨zK Hv.out.symm,hx2⟩
 have H2:=Lib.hid hb1;clear hb1
 go_wp2_with fail
 refine(zAF sb _ s3).mono ?_;rintro e w3 ⟨rfl,hf3⟩;have q3:=hf3.heap q2 id;have hx3:=hx2.step hf3 (fun _ _ h=>h);clear c0 c1 c2 c3 c4 c5 c6 c7 c8 c9 q2;obtain⟨c0,c1,c2,c3,c4,c5,c6,c7,c8,c9⟩:=DevB.of q3;rcases hb1:isName sb with _ | _
 ·have Hv:Hid (rb=false):=by unfold Hid;rw[Hrb.out,hb1,Bool.and_false];rfl
  clear hb1
  go_wp2_with fail
  go_ret;exact⟨zK Hv.out.symm,hx3⟩
 have H3:=Lib.hid hb1;clear hb1
 go_wp2_with fail
 refine(zET al _ s5).mono ?_;rintro e w4 ⟨rfl,rfl⟩;have Hv:Hid (rb=zAk al):=by unfold Hid;rw[Hrb.out,H1.out,H2.out,H3.out];rfl
 go_wp2_with fail
 go_ret;exact⟨zK Hv.out.symm,hx3⟩
theorem zKI (d:Dev)(w:World)(hk:d.kind=2):
  Calls Tryz.prog 195 #[.agg d.vals] w fun e w'=>e=.returned (.bool (d.name.toList==d.orig.toList))/\Fr No w w':=by
 obtain⟨ix,pa,nm,og,sb,dr,al,kd,nu,aa,an,ac⟩:=d;dsimp only at hk;subst hk;have hx:Fr No w (w.alloc (.cells (Dev.vals ⟨ix,pa,nm,og,sb,dr,al,2,nu,aa,an,ac⟩) 34)):=(Fr.refl _ _).alloc _;unfold Dev.vals at *;dsimp only at hx ⊢
 go_enter Tryz.func195,Tryz.ntmps195
 go_wp2_with fail
 go_ret;exact⟨rfl,hx⟩
theorem zHs (d:Dev)(w:World)(hk:d.kind=2):
  Calls Tryz.prog 196 #[.agg d.vals] w fun e w'=>e=.returned (.bool (decide (1<=d.num)&&decide (d.num<=1073741824)))/\Fr No w w':=by
 obtain⟨ix,pa,nm,og,sb,dr,al,kd,nu,aa,an,ac⟩:=d;dsimp only at hk;subst hk;have hx:Fr No w (w.alloc (.cells (Dev.vals ⟨ix,pa,nm,og,sb,dr,al,2,nu,aa,an,ac⟩) 34)):=(Fr.refl _ _).alloc _;unfold Dev.vals at *;dsimp only at hx ⊢;have H:Hid (numK 2=true):=rfl
 go_enter Tryz.func196,Tryz.ntmps196
 go_wp2_with fail
 refine(zDe _ _).mono ?_;rintro e w1 ⟨rfl,rfl⟩;rw[H.out]
 go_wp2_with fail
 refine(zD4 _ _ _ _).mono ?_;rintro e w1 ⟨rfl,rfl⟩
 go_wp2_with fail
 go_ret;exact⟨rfl,hx⟩
def SMap (w:World)(mb:Nat)(g:Int->Option ByteArray)(N:Nat):Prop:=
 ∃ (D:DataW Unit) (n:Nat),n<=N/\w.ownsMap Tryz.prog 3 (plainElem Tryz.prog 9) mb n D/\(∀ x,has D (.int .i64 x)=(g x).isSome)/\∀ x,D.atKey (.int .i64 x) (.lit (.string []))=.lit (.string ((g x).getD ⟨#[]⟩).data.toList)
def IMap (w:World)(mb:Nat)(g:Int->Option Int)(N:Nat):Prop:=
 ∃ (D:DataW Unit) (n:Nat),n<=N/\w.ownsMap Tryz.prog 3 (plainElem Tryz.prog 3) mb n D/\(∀ x,has D (.int .i64 x)=(g x).isSome)/\∀ x,D.atKey (.int .i64 x) (.lit (.int .i64 0))=.lit (.int .i64 ((g x).getD 0))
theorem SMap.lt {w:World}{mb:Nat}{g:Int->Option ByteArray}{N:Nat}(h:SMap w mb g N):mb<w.heap.size:=by obtain⟨D,n,_,ho,_⟩:=h;exact ho.lt
theorem IMap.lt {w:World}{mb:Nat}{g:Int->Option Int}{N:Nat}(h:IMap w mb g N):mb<w.heap.size:=by obtain⟨D,n,_,ho,_⟩:=h;exact ho.lt
theorem SMap.fr {S:Nat->Prop}{w w':World}{mb:Nat}{g:Int->Option ByteArray}{N:Nat}(h:SMap w mb g N)(hf:Fr S w w')(hS:¬ S mb):SMap w' mb g N:=by
 obtain⟨D,n,hn,ho,r⟩:=h;exact⟨D,n,hn,hf.ownsMap ho hS,r⟩
theorem IMap.fr {S:Nat->Prop}{w w':World}{mb:Nat}{g:Int->Option Int}{N:Nat}(h:IMap w mb g N)(hf:Fr S w w')(hS:¬ S mb):IMap w' mb g N:=by
 obtain⟨D,n,hn,ho,r⟩:=h;exact⟨D,n,hn,hf.ownsMap ho hS,r⟩
theorem SMap.made (w:World):SMap (w.alloc (.map #[] 0)) w.heap.size (fun _=>none) 0:=⟨.map [],0,Nat.le_refl _,World.ownsMap_made _ _ _ _,fun _=>rfl,fun _=>rfl⟩
theorem IMap.made (w:World):IMap (w.alloc (.map #[] 0)) w.heap.size (fun _=>none) 0:=⟨.map [],0,Nat.le_refl _,World.ownsMap_made _ _ _ _,fun _=>rfl,fun _=>rfl⟩
theorem zeroS (w:World):(zeroValue 9).run Tryz.prog w=.ok (.string ⟨#[]⟩) w:=by kernel_rfl
theorem zeroI (w:World):(zeroValue 3).run Tryz.prog w=.ok (.int .i64 0) w:=by kernel_rfl
theorem zEA {s t:ByteArray}(h:s.data.toList=t.data.toList):s=t:=by
 cases s;cases t;simp only at h
 congr 1
 exact Array.toList_inj.1 h
theorem zEp {w:World}{ops:Array Oper}{rest:List Oper}{o:Oper}{a:Act}{Q:Exit->Act->World->Prop}(hg:o.guard=none)(m x:Operand)(t:TypeId)(hop:o.op=Op.lookup t m x false)(ht:Tryz.prog.underlying t=some (.map 3 9))
  (mb:Nat) (g:Int->Option ByteArray) (N:Nat) (k:Int) (hk:(Lit.int .i64 k).wf=true) (hm:a.eval m=.map (some mb)) (hown:SMap w mb g N) (hx:a.eval x=.int .i64 k)
  (hK:wpList Tryz.prog ops Q rest (a.put o.dst (.string ((g k).getD ⟨#[]⟩))) w):wpList Tryz.prog ops Q (o::rest) a w:=by
 obtain⟨D,n,_,ho,_,h2⟩:=hown;refine wpList_plain hg fun K' hK'=>?_
 obtain⟨v,ps,hrun,hv⟩:=ho.lookup lawI ht (zeroS w) (plainElem_string Tryz.underlying9 (by unfold maxLen;show 0<=_;omega)) (keyOf_int_mk Tryz.underlying3 hk);obtain⟨s,rfl,hs,_⟩:=plainElem_string_inv Tryz.underlying9 hv;simp only[Prod.mk.injEq]at hs;have e:=(h2 k).symm.trans hs.1;obtain rfl:s=(g k).getD ⟨#[]⟩:=zEA (by simpa using e.symm);unfold Oper.wp;simp[execOp,hop,hm,hx,hrun,Result.andThen];exact hK' _ _ hK
theorem zDQ {w:World}{ops:Array Oper}{rest:List Oper}{o:Oper}{a:Act}{Q:Exit->Act->World->Prop}(hg:o.guard=none)(m x:Operand)(t:TypeId)(hop:o.op=Op.lookup t m x true)(ht:Tryz.prog.underlying t=some (.map 3 9))
  (mb:Nat) (g:Int->Option ByteArray) (N:Nat) (k:Int) (hk:(Lit.int .i64 k).wf=true) (hm:a.eval m=.map (some mb)) (hown:SMap w mb g N) (hx:a.eval x=.int .i64 k)
  (hK:wpList Tryz.prog ops Q rest (a.put o.dst (.tuple #[.string ((g k).getD ⟨#[]⟩),.bool (g k).isSome])) w):wpList Tryz.prog ops Q (o::rest) a w:=by
 obtain⟨D,n,_,ho,h1,h2⟩:=hown;refine wpList_lookup_own_ok w hg m x t hop 3 9 lawI ht _ (zeroS w) (.lit (.string [])) [] (plainElem_string Tryz.underlying9 (by unfold maxLen;show 0<=_;omega)) mb n D hm ho _ _ hx (keyOf_int_mk Tryz.underlying3 hk) (fun v ps hv=>?_);obtain⟨s,rfl,hs,_⟩:=plainElem_string_inv Tryz.underlying9 hv;simp only[Prod.mk.injEq]at hs;have e:=(h2 k).symm.trans hs.1;obtain rfl:s=(g k).getD ⟨#[]⟩:=zEA (by simpa using e.symm);rw[h1];exact hK
theorem zDS {w:World}{ops:Array Oper}{rest:List Oper}{o:Oper}{a:Act}{Q:Exit->Act->World->Prop}(hg:o.guard=none)(m x:Operand)(t:TypeId)(hop:o.op=Op.lookup t m x true)(ht:Tryz.prog.underlying t=some (.map 3 3))
  (mb:Nat) (g:Int->Option Int) (N:Nat) (k:Int) (hk:(Lit.int .i64 k).wf=true) (hm:a.eval m=.map (some mb)) (hown:IMap w mb g N) (hx:a.eval x=.int .i64 k)
  (hK:wpList Tryz.prog ops Q rest (a.put o.dst (.tuple #[.int .i64 ((g k).getD 0),.bool (g k).isSome])) w):wpList Tryz.prog ops Q (o::rest) a w:=by
 obtain⟨D,n,_,ho,h1,h2⟩:=hown;refine wpList_lookup_own_ok_int w hg m x t hop 3 3 .i64 lawI ht Tryz.underlying3 (zeroI w) mb n D hm ho _ _ hx (keyOf_int_mk Tryz.underlying3 hk) (fun c hc _=>?_);have e:=(h2 k).symm.trans hc;obtain rfl:c=(g k).getD 0:=by simpa using e.symm
 rw[h1];exact hK
def updO {α:Type}(g:Int->Option α)(x:Int)(v:α):Int->Option α:=fun y=>if y=x then some v else g y
theorem SMap.put {w w1:World}{mb:Nat}{D:DataW Unit}{n N:Nat}{g:Int->Option ByteArray}(hn:n<=N)(ho:w.ownsMap Tryz.prog 3 (plainElem Tryz.prog 9) mb n D)(h1:∀ x,has D (.int .i64 x)=(g x).isSome)(h2:∀ x,D.atKey (.int .i64 x) (.lit (.string []))=.lit (.string ((g x).getD ⟨#[]⟩).data.toList))
  (x:Int) (s:ByteArray) (ho1:w1.ownsMap Tryz.prog 3 (plainElem Tryz.prog 9) mb (n+1) (D.put (.int .i64 x) (.lit (.string s.data.toList)))):SMap w1 mb (updO g x s) (N+1):=by
 refine⟨_,n+1,by omega,ho1,fun y=>?_,fun y=>?_⟩
 ·unfold updO;split
  ·rename_i e;subst e;rw[has_put_same ho.isMap (zBv _) _];rfl
  ·rename_i e;rw[has_put_other (by intro e';exact e (by simpa using e'))];exact h1 y
 ·unfold updO;split
  ·rename_i e;subst e;rw[atKey_put_same ho.isMap (zBv _) _ _];rfl
  ·rename_i e;rw[atKey_put_other (by intro e';exact e (by simpa using e'))];exact h2 y
theorem IMap.put {w w1:World}{mb:Nat}{D:DataW Unit}{n N:Nat}{g:Int->Option Int}(hn:n<=N)(ho:w.ownsMap Tryz.prog 3 (plainElem Tryz.prog 3) mb n D)(h1:∀ x,has D (.int .i64 x)=(g x).isSome)(h2:∀ x,D.atKey (.int .i64 x) (.lit (.int .i64 0))=.lit (.int .i64 ((g x).getD 0)))
  (x v:Int) (ho1:w1.ownsMap Tryz.prog 3 (plainElem Tryz.prog 3) mb (n+1) (D.put (.int .i64 x) (.lit (.int .i64 v)))):IMap w1 mb (updO g x v) (N+1):=by
 refine⟨_,n+1,by omega,ho1,fun y=>?_,fun y=>?_⟩
 ·unfold updO;split
  ·rename_i e;subst e;rw[has_put_same ho.isMap (zBv _) _];rfl
  ·rename_i e;rw[has_put_other (by intro e';exact e (by simpa using e'))];exact h1 y
 ·unfold updO;split
  ·rename_i e;subst e;rw[atKey_put_same ho.isMap (zBv _) _ _];rfl
  ·rename_i e;rw[atKey_put_other (by intro e';exact e (by simpa using e'))];exact h2 y
theorem zJh (d d':Dev)(m:Int)(w:World)(hs:d.orig.size<=32)(hs':d'.orig.size<=32)(hm:w.cell? ⟨0,0,none⟩=some (.int .i64 m))(h0:0<w.heap.size):
  Calls Tryz.prog 37 #[.agg d.vals,.agg d'.vals] w fun e w'=>RetB e/\Fr No w w':=by
 have hx:Fr No w ((w.alloc (.cells d.vals 34)).alloc (.cells d'.vals 34)):=((Fr.refl _ _).alloc _).alloc _;have hbx:=zL w (.cells d.vals 34) (.cells d'.vals 34);have hby:=zP w (.cells d.vals 34) (.cells d'.vals 34);have hmx:=hx.cell hm id;have h0x:0<((w.alloc (.cells d.vals 34)).alloc (.cells d'.vals 34)).heap.size:=by simp
 have hn1:∀ W:World,W.cell? ⟨0,0,none⟩=some (.int .i64 m)->0<W.heap.size->_:=fun W h1 h2=>zG8 d m W (by omega) h1 h2
 have hn2:∀ W:World,W.cell? ⟨0,0,none⟩=some (.int .i64 m)->0<W.heap.size->_:=fun W h1 h2=>zG8 d' m W (by omega) h1 h2
 have N1:=Lib.hid hn1;have N2:=Lib.hid hn2;clear hn1 hn2 hm;unfold Dev.vals at *
 go_enter Tryz.func37,Tryz.ntmps37
 go_upto_region 1 with(fail)
 generalize (w.alloc (.cells #[.int .i64 d.index,.int .i64 d.parent,.string d.name,.string d.orig,.string d.sub,.string d.drv,.string d.ali,.int .i64 d.kind,.int .i64 d.num,.slice d.aa d.an d.ac] 34)).alloc (.cells #[.int .i64 d'.index,.int .i64 d'.parent,.string d'.name,.string d'.orig,.string d'.sub,.string d'.drv,.string d'.ali,.int .i64 d'.kind,.int .i64 d'.num,.slice d'.aa d'.an d'.ac] 34)=W0 at *;obtain⟨a0,a1,a2,a3,a4,a5,a6,a7,a8,a9⟩:=cl10 hbx;obtain⟨-,-,b2,-,-,-,-,b7⟩:=cl8 hby
 go_cut [23] (fun v wx=>(∃ b,v=.bool b)/\W0=wx)
 case first=>
  rcases hk:(d.kind==4)with _ | _
  all_goals rcases hk':(d'.kind==4)with _ | _
  all_goals
   go_wp2_with fail
   all_goals
    go_meet
    exact⟨⟨_,rfl⟩,rfl⟩
 case rest=>
  obtain⟨⟨b,rfl⟩,rfl⟩:=hcut;cases b
  case true=>
   go_wp2_with fail
   go_ret;exact⟨RetB.mk _,hx⟩
  go_wp2_with fail
  refine(N1.out _ hmx h0x).mono ?_;rintro e w1 ⟨⟨s,hsz,rfl⟩,hf1⟩;have hx1:=hx.step hf1 (fun _ _ h=>h);have hbx1:=hf1.heap hbx id;have hby1:=hf1.heap hby id;have hm1:=hf1.cell hmx id;have h01:0<w1.heap.size:=by have:=hf1.size;omega
  generalize (decide (d.kind=2)||decide (d.kind=3))=g1;clear a0 a1 a2 a3 a4 a5 a6 a7 a8 a9 b2 b7 hbx hby hmx h0x;obtain⟨b0,b1,b2,b3,b4,b5,b6,b7,b8,b9⟩:=cl10 hby1
  go_wp2_with fail
  refine(N2.out _ hm1 h01).mono ?_;rintro e w2 ⟨⟨u,huz,rfl⟩,hf2⟩;have hx2:=hx1.step hf2 (fun _ _ h=>h);have hbx2:=hf2.heap hbx1 id;have hby2:=hf2.heap hby1 id;generalize (decide (d'.kind=2)||decide (d'.kind=3))=g2;clear b0 b1 b2 b3 b4 b5 b6 b7 b8 b9 hbx1 hby1;obtain⟨-,-,-,-,-,-,-,a7,a8⟩:=cl9 hbx2;obtain⟨-,-,-,-,-,-,-,b7,b8⟩:=cl9 hby2;cases g1
  ·cases g2
   all_goals
    go_wp2_with fail
    go_ret;exact⟨RetB.mk _,hx2⟩
  cases g2
  ·go_wp2_with fail
   go_ret;exact⟨RetB.mk _,hx2⟩
  have HB1:=Lib.hid (fun W=>zEJ s u W hsz huz);have HB2:=Lib.hid (fun W=>zEJ u s W huz hsz);rcases hk:(d.kind==d'.kind)with _ | _
  all_goals rcases hn:(d.num==d'.num)with _ | _
  all_goals rcases hsu:(s.toList==u.toList)with _ | _
  all_goals
   go_wp2_with fail
  all_goals first
   | (go_ret;exact⟨RetB.mk _,hx2⟩)
   | skip
  all_goals
   refine(HB1.out _).mono ?_;rintro e w3 ⟨⟨b,rfl⟩,rfl⟩;cases b
  all_goals
   go_wp2_with fail
  all_goals first
   | (go_ret;exact⟨RetB.mk _,hx2⟩)
   | skip
  all_goals
   refine(HB2.out _).mono ?_;rintro e w3 ⟨⟨b,rfl⟩,rfl⟩
   go_wp2_with fail
   go_ret;exact⟨RetB.mk _,hx2⟩
end Go.Proofs.YtmajgldaplkpiaaGreatDoor
