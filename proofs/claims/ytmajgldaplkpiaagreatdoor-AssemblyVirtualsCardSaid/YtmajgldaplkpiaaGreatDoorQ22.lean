import Derived.Lib.AtoiAll
import Derived.Lib.ItoaNum
namespace Go.Proofs.YtmajgldaplkpiaaGreatDoor
open Go
set_option linter.unusedVariables false
set_option maxRecDepth 100000
set_option maxHeartbeats 1000000
inductive Ct where
 | mk (kind:Int) (id label:ByteArray) (slot total least:Int) (inner:List Ct)
namespace Ct
def kind : Ct->Int | .mk k _ _ _ _ _ _=>k
def id : Ct->ByteArray | .mk _ i _ _ _ _ _=>i
def label : Ct->ByteArray | .mk _ _ l _ _ _ _=>l
def slot : Ct->Int | .mk _ _ _ s _ _ _=>s
def total : Ct->Int | .mk _ _ _ _ t _ _=>t
def least : Ct->Int | .mk _ _ _ _ _ e _=>e
def inner : Ct->List Ct | .mk _ _ _ _ _ _ n=>n
def zero : Ct:=.mk 0 ⟨#[]⟩ ⟨#[]⟩ 0 0 0 []
end Ct
def commas : List (List UInt8)->List UInt8
 | []=>[]
 | [x]=>x
 | x::y::t=>x++44::commas (y::t)
abbrev bl (s:ByteArray):List UInt8:=s.data.toList
def zBU (k:Int)(i l:ByteArray)(s t e:Int):List UInt8:=
 if k=1 then [102,115,58]++bl i++[58]++bl l
 else if k=2 then [114,97,105,100,58]++bl i++[58]++Lib.itoa s++[47]++Lib.itoa t++[47]++Lib.itoa e
 else if k=3 then [99,114,121,112,116,58]++bl i
 else if k=4 then [112,118,58]++bl i++[58]++Lib.itoa s++[47]++Lib.itoa t
 else if k=5 then [116,97,98,108,101,58]++bl i
 else []
def hasIn (k:Int):Bool:=decide (k=2)||decide (k=3)||decide (k=4)||decide (k=5)
mutual
def Ct.text : Ct->List UInt8
 | .mk k i l s t e n=>zBU k i l s t e++if hasIn k=true then 40::commas (Ct.texts n)++[41]else []
def Ct.texts : List Ct->List (List UInt8)
 | []=>[]
 | c::t=>c.text::Ct.texts t
end
theorem zBA : ∀ l:List Ct,Ct.texts l=l.map Ct.text
 | []=>rfl
 | c::t=>by rw[Ct.texts,zBA t];rfl
section
variable (i l:ByteArray)(s t e:Int)(n:List Ct)
theorem zJf : (Ct.mk 0 i l s t e n).text=[]:=by rw[Ct.text];rfl
theorem zG5 : (Ct.mk 1 i l s t e n).text=[102,115]++58::(bl i++58::bl l):=by rw[Ct.text];simp[zBU,hasIn]
theorem zGM : (Ct.mk 2 i l s t e n).text=[114,97,105,100]++58::(bl i++58::(Lib.itoa s++47::(Lib.itoa t++47::(Lib.itoa e++40::(commas (n.map Ct.text)++[41]))))):=by rw[Ct.text,zBA];simp[zBU,hasIn]
theorem zIJ : (Ct.mk 3 i l s t e n).text=[99,114,121,112,116]++58::(bl i++40::(commas (n.map Ct.text)++[41])):=by rw[Ct.text,zBA];simp[zBU,hasIn]
theorem zII : (Ct.mk 4 i l s t e n).text=[112,118]++58::(bl i++58::(Lib.itoa s++47::(Lib.itoa t++40::(commas (n.map Ct.text)++[41])))):=by rw[Ct.text,zBA];simp[zBU,hasIn]
theorem zG4 : (Ct.mk 5 i l s t e n).text=[116,97,98,108,101]++58::(bl i++40::(commas (n.map Ct.text)++[41])):=by rw[Ct.text,zBA];simp[zBU,hasIn]
end
def idByte (b:UInt8):Bool:=(decide (65<=b)&&decide (b<=90))||(decide (97<=b)&&decide (b<=122))||(decide (48<=b)&&decide (b<=57))||decide (b=95)||decide (b=46)||decide (b=45)
def isId (s:ByteArray):Bool:=!(bl s).isEmpty&&decide ((bl s).length<=16)&&(bl s).all idByte
def noNum (s t e:Int):Bool:=decide (s=0)&&decide (t=0)&&decide (e=0)
def zAC (s t:Int):Bool:=decide (1<=t)&&decide (t<=16)&&decide (1<=s)&&decide (s<=t)
def someIn (n:List Ct):Bool:=decide (1<=n.length)&&decide (n.length<=16)
def alike : Ct->Bool
 | .mk k i l s t e n=>
  if k=0 then (bl i).isEmpty&&(bl l).isEmpty&&noNum s t e&&n.isEmpty
  else if k=1 then isId i&&((bl l).isEmpty||isId l)&&noNum s t e&&n.isEmpty
  else if k=2 then isId i&&(bl l).isEmpty&&zAC s t&&decide (1<=e)&&decide (e<=t)&&decide (n.length=1)
  else if k=3 then isId i&&(bl l).isEmpty&&noNum s t e&&decide (n.length=1)
  else if k=4 then isId i&&(bl l).isEmpty&&zAC s t&&decide (e=0)&&someIn n
  else if k=5 then isId i&&(bl l).isEmpty&&noNum s t e&&someIn n
  else false
mutual
def Ct.good : Ct->Bool
 | .mk k i l s t e n=>alike (.mk k i l s t e n)&&Ct.goods n
def Ct.goods : List Ct->Bool
 | []=>true
 | c::t=>c.good&&Ct.goods t
end
mutual
def Ct.depth : Ct->Nat
 | .mk k _ _ _ _ _ n=>if k=0 then Ct.depths n else Ct.depths n+1
def Ct.depths : List Ct->Nat
 | []=>0
 | c::t=>max c.depth (Ct.depths t)
end
def Ct.valid (c:Ct):Bool:=decide (c.depth<=6)&&c.good
def upto (ends r:List UInt8):List UInt8:=r.takeWhile fun b=>!ends.contains b
def past (ends r:List UInt8):List UInt8:=r.dropWhile fun b=>!ends.contains b
theorem zAG (ends r:List UInt8):upto ends r++past ends r=r:=List.takeWhile_append_dropWhile
def zV (b:UInt8):List UInt8->Option (List UInt8)
 | []=>none
 | x::t=>if x=b then some t else none
theorem zg {b:UInt8}{r t:List UInt8}(h:zV b r=some t):r=b::t:=by
 cases r with
 | nil=>cases h
 | cons x r=>
  simp only[zV]at h;by_cases e:x=b
  ·rw[if_pos e]at h;injection h with h;rw[e,h]
  ·rw[if_neg e]at h;cases h
def pNum (r:List UInt8):Option (Int×List UInt8):=
 match Lib.atoiAll (upto [47,40,44,41,58] r)with
 | .ok v=>if Lib.itoa v=upto [47,40,44,41,58] r then some (v,past [47,40,44,41,58] r)else none
 | _=>none
theorem zAm {r r':List UInt8}{v:Int}(h:pNum r=some (v,r')):r=Lib.itoa v++r':=by
 unfold pNum at h;split at h
 ·split at h
  ·rename_i e;injection h with h
   injection h with h1 h2
   subst h1;subst h2;rw[e,zAG]
  ·cases h
 ·cases h
mutual
def pC : Nat->List UInt8->Option (Ct×List UInt8)
 | 0,_=>none
 | n+1,r=>
  if upto [58,44,41] r=[]then some (Ct.zero,r)else
  (zV 58 (past [58,44,41] r)).bind fun r2=>
  let id:ByteArray:=⟨(upto [58,40,44,41] r2).toArray⟩
  let r3:=past [58,40,44,41] r2
  if upto [58,44,41] r=[102,115]then
   (zV 58 r3).bind fun r4=>some (.mk 1 id ⟨(upto [44,41] r4).toArray⟩ 0 0 0 [],past [44,41] r4)
  else if upto [58,44,41] r=[114,97,105,100]then
   (zV 58 r3).bind fun r4=>(pNum r4).bind fun p5=>(zV 47 p5.2).bind fun r6=>(pNum r6).bind fun p7=>(zV 47 p7.2).bind fun r8=>(pNum r8).bind fun p9=>
    (zV 40 p9.2).bind fun ra=>(pL n [] ra).bind fun pb=>some (.mk 2 id ⟨#[]⟩ p5.1 p7.1 p9.1 pb.1,pb.2)
  else if upto [58,44,41] r=[99,114,121,112,116]then
   (zV 40 r3).bind fun ra=>(pL n [] ra).bind fun pb=>some (.mk 3 id ⟨#[]⟩ 0 0 0 pb.1,pb.2)
  else if upto [58,44,41] r=[112,118]then
   (zV 58 r3).bind fun r4=>(pNum r4).bind fun p5=>(zV 47 p5.2).bind fun r6=>(pNum r6).bind fun p7=>
    (zV 40 p7.2).bind fun ra=>(pL n [] ra).bind fun pb=>some (.mk 4 id ⟨#[]⟩ p5.1 p7.1 0 pb.1,pb.2)
  else if upto [58,44,41] r=[116,97,98,108,101]then
   (zV 40 r3).bind fun ra=>(pL n [] ra).bind fun pb=>some (.mk 5 id ⟨#[]⟩ 0 0 0 pb.1,pb.2)
  else none
def pL : Nat->List Ct->List UInt8->Option (List Ct×List UInt8)
 | 0,_,_=>none
 | n+1,acc,r=>(pC n r).bind fun p=>
  match zV 41 p.2 with
  | some r2=>some (acc++[p.1],r2)
  | none=>(zV 44 p.2).bind fun r2=>pL n (acc++[p.1]) r2
end
theorem zC8 : ∀ (l:List (List UInt8)) (x:List UInt8),l≠[]->commas (l++[x])=commas l++44::x
 | [],x,h=>absurd rfl h
 | [y],x,_=>rfl
 | y::z::t,x,_=>by
  show commas (y::z::(t++[x]))=_
  have h:=zC8 (z::t) x (by simp);simp only[commas,List.cons_append]at h ⊢;rw[h];simp
theorem zDM (l:List UInt8):bl (⟨l.toArray⟩:ByteArray)=l:=by simp[bl]
def zBe (acc:List Ct):List UInt8:=if acc=[]then []else commas (acc.map Ct.text)++[44]
theorem zGC (acc:List Ct)(c:Ct):zBe acc++c.text=commas ((acc++[c]).map Ct.text):=by
 unfold zBe;by_cases h:acc=[]
 ·subst h;simp[commas]
 ·rw[if_neg h,List.map_append,List.map_cons,List.map_nil,zC8 _ _ (by simpa using h)];simp
theorem zIG (acc:List Ct)(c:Ct):zBe (acc++[c])=zBe acc++c.text++[44]:=by
 rw[zGC];unfold zBe;rw[if_neg (by simp)]
theorem zHN : ∀ n:Nat,(∀ r c r',pC n r=some (c,r')->r=c.text++r')/\(∀ acc r l r',pL n acc r=some (l,r')->zBe acc++r=commas (l.map Ct.text)++41::r')
 | 0=>⟨fun r c r' h=>by simp[pC]at h,fun acc r l r' h=>by simp[pL]at h⟩
 | n+1=>by
  obtain⟨ihC,ihL⟩:=zHN n;have hin:∀ ra (pb:List Ct×List UInt8),pL n [] ra=some pb->ra=commas (pb.1.map Ct.text)++41::pb.2:=fun ra pb h=>by
   have:=ihL [] ra pb.1 pb.2 h
   simpa [zBe]using this
  refine⟨fun r c r' h=>?_,fun acc r l r' h=>?_⟩
  ·have hr:=zAG [58,44,41] r;rw[pC]at h;by_cases h0:upto [58,44,41] r=[]
   ·rw[if_pos h0]at h;injection h with h
    injection h with h1 h2
    subst h1;subst h2;rw[Ct.zero,zJf];rfl
   rw[if_neg h0]at h;obtain⟨r2,hr2,h⟩:=Option.bind_eq_some_iff.1 h;have e2:=zg hr2;have hid:=zAG [58,40,44,41] r2;rw[e2]at hr;simp only at h;generalize upto [58,40,44,41] r2=di at h hid;generalize past [58,40,44,41] r2=r3 at h hid;generalize upto [58,44,41] r=kd at h hr;split at h
   ·rename_i hk;obtain⟨r4,hr4,h⟩:=Option.bind_eq_some_iff.1 h;have e4:=zg hr4;have hl:=zAG [44,41] r4;generalize upto [44,41] r4=lb at h hl;generalize past [44,41] r4=rs at h hl;injection h with h
    injection h with h1 h2
    subst h1;subst h2;rw[zG5,zDM,zDM];rw[<-hr,hk,<-hid,e4,<-hl];simp
   split at h
   ·rename_i hk;obtain⟨r4,hr4,h⟩:=Option.bind_eq_some_iff.1 h;obtain⟨p5,hp5,h⟩:=Option.bind_eq_some_iff.1 h;obtain⟨r6,hr6,h⟩:=Option.bind_eq_some_iff.1 h;obtain⟨p7,hp7,h⟩:=Option.bind_eq_some_iff.1 h;obtain⟨r8,hr8,h⟩:=Option.bind_eq_some_iff.1 h;obtain⟨p9,hp9,h⟩:=Option.bind_eq_some_iff.1 h;obtain⟨ra,hra,h⟩:=Option.bind_eq_some_iff.1 h;obtain⟨pb,hpb,h⟩:=Option.bind_eq_some_iff.1 h;injection h with h
    injection h with h1 h2
    subst h1;subst h2;have e5:=zAm hp5;have e7:=zAm hp7;have e9:=zAm hp9;rw[zGM,zDM];rw[<-hr,hk,<-hid,zg hr4,e5,zg hr6,e7,zg hr8,e9,zg hra,hin ra pb hpb];simp
   split at h
   ·rename_i hk;obtain⟨ra,hra,h⟩:=Option.bind_eq_some_iff.1 h;obtain⟨pb,hpb,h⟩:=Option.bind_eq_some_iff.1 h;injection h with h
    injection h with h1 h2
    subst h1;subst h2;rw[zIJ,zDM];rw[<-hr,hk,<-hid,zg hra,hin ra pb hpb];simp
   split at h
   ·rename_i hk;obtain⟨r4,hr4,h⟩:=Option.bind_eq_some_iff.1 h;obtain⟨p5,hp5,h⟩:=Option.bind_eq_some_iff.1 h;obtain⟨r6,hr6,h⟩:=Option.bind_eq_some_iff.1 h;obtain⟨p7,hp7,h⟩:=Option.bind_eq_some_iff.1 h;obtain⟨ra,hra,h⟩:=Option.bind_eq_some_iff.1 h;obtain⟨pb,hpb,h⟩:=Option.bind_eq_some_iff.1 h;injection h with h
    injection h with h1 h2
    subst h1;subst h2;have e5:=zAm hp5;have e7:=zAm hp7;rw[zII,zDM];rw[<-hr,hk,<-hid,zg hr4,e5,zg hr6,e7,zg hra,hin ra pb hpb];simp
   split at h
   ·rename_i hk;obtain⟨ra,hra,h⟩:=Option.bind_eq_some_iff.1 h;obtain⟨pb,hpb,h⟩:=Option.bind_eq_some_iff.1 h;injection h with h
    injection h with h1 h2
    subst h1;subst h2;rw[zG4,zDM];rw[<-hr,hk,<-hid,zg hra,hin ra pb hpb];simp
   ·cases h
  ·rw[pL]at h;obtain⟨p,hp,h⟩:=Option.bind_eq_some_iff.1 h;have e1:=ihC r p.1 p.2 hp;cases hs:zV 41 p.2 with
   | some r2=>
    rw[hs]at h;simp only at h;injection h with h
    injection h with h1 h2
    subst h1;subst h2;rw[<-zGC,e1,zg hs];simp
   | none=>
    rw[hs]at h;simp only at h;obtain⟨r2,hr2,h⟩:=Option.bind_eq_some_iff.1 h;have:=ihL _ r2 l r' h;rw[zIG]at this;rw[<-this,e1,zg hr2];simp
theorem zo {ends:List UInt8}:∀ {w:List UInt8} {b:UInt8} {t:List UInt8},(∀ x∈w,ends.contains x=false)->ends.contains b=true->upto ends (w++b::t)=w/\past ends (w++b::t)=b::t
 | [],b,t,_,hb=>by
  simp only[upto,past,List.nil_append,List.takeWhile_cons,List.dropWhile_cons,hb];simp
 | x::w,b,t,hw,hb=>by
  have hx:=hw x (by simp);have ih:=zo (w:=w) (b:=b) (t:=t) (fun y hy=>hw y (by simp[hy])) hb;simp only[upto,past,List.cons_append,List.takeWhile_cons,List.dropWhile_cons,hx,Bool.not_false,if_true]at ih ⊢;rw[ih.1,ih.2];exact⟨rfl,rfl⟩
theorem zFU {ends:List UInt8}:∀ {w:List UInt8},(∀ x∈w,ends.contains x=false)->upto ends w=w/\past ends w=[]
 | [],_=>⟨rfl,rfl⟩
 | x::w,hw=>by
  have hx:=hw x (by simp);have ih:=zFU (w:=w) (fun y hy=>hw y (by simp[hy]));simp only[upto,past,List.takeWhile_cons,List.dropWhile_cons,hx,Bool.not_false,if_true]at ih ⊢;rw[ih.1,ih.2];exact⟨rfl,rfl⟩
theorem zAx (b:UInt8)(t:List UInt8):zV b (b::t)=some t:=by simp[zV]
theorem zEe (k:Nat)(h1:1<=k)(h2:k<=16):Lib.decDigits k=if k<10 then [UInt8.ofNat (48+k)]else [49,UInt8.ofNat (48+k % 10)]:=by
 rw[Lib.decDigits];by_cases h:k<10
 ·rw[dif_pos h,if_pos h]
 ·rw[dif_neg h,if_neg h,Lib.decDigits,dif_pos (by omega)];have:k / 10=1:=by omega
  rw[this];rfl
theorem zCp (v:Int)(h1:1<=v)(h2:v<=16)(b:UInt8)(t:List UInt8)(hb:([47,40,44,41,58]:List UInt8).contains b=true):pNum (Lib.itoa v++b::t)=some (v,b::t):=by
 obtain⟨k,rfl⟩:=Int.eq_ofNat_of_zero_le (show 0<=v by omega);have hd:=zEe k (by omega) (by omega);have hi:Lib.itoa (k:Int)=Lib.decDigits k:=by unfold Lib.itoa;rw[if_neg (by omega)];simp
 have key:(∀ x∈Lib.itoa (k:Int),([47,40,44,41,58]:List UInt8).contains x=false)/\Lib.atoiAll (Lib.itoa (k:Int))=.ok (k:Int):=by
  rw[hi,hd];rcases(by omega:k=1\/k=2\/k=3\/k=4\/k=5\/k=6\/k=7\/k=8\/k=9\/k=10\/k=11\/k=12\/k=13\/k=14\/k=15\/k=16)with rfl | rfl | rfl | rfl | rfl | rfl | rfl | rfl | rfl | rfl | rfl | rfl | rfl | rfl | rfl | rfl<;>exact⟨by decide,rfl⟩
 obtain⟨e1,e2⟩:=zo (t:=t) key.1 hb;unfold pNum;rw[e1,e2,key.2];simp
theorem zHk {s:ByteArray}(h:isId s=true):∀ x∈bl s,x≠58/\x≠40/\x≠44/\x≠41/\x≠47:=by
 unfold isId at h;simp only[Bool.and_eq_true,List.all_eq_true]at h;intro x hx;have h1:=h.2 x hx;refine⟨?_,?_,?_,?_,?_⟩<;>(rintro rfl;revert h1;decide)
theorem zCf {s:ByteArray}(h:isId s=true):∀ x∈bl s,([58,40,44,41]:List UInt8).contains x=false:=by
 intro x hx;obtain⟨h1,h2,h3,h4,h5⟩:=zHk h x hx;simp[h1,h2,h3,h4]
theorem zGP {s:ByteArray}(h:((bl s).isEmpty||isId s)=true):∀ x∈bl s,([44,41]:List UInt8).contains x=false:=by
 intro x hx;rw[Bool.or_eq_true]at h;rcases h with h | h
 ·rw[List.isEmpty_iff]at h;rw[h]at hx;simp at hx
 ·obtain⟨h1,h2,h3,h4,h5⟩:=zHk h x hx;simp[h3,h4]
theorem zA3 {s:ByteArray}(h:(bl s).isEmpty=true):s=⟨#[]⟩:=by
 rw[List.isEmpty_iff]at h;apply ByteArray.ext;apply Array.ext'
 simpa [bl]using h
theorem zKs (s:ByteArray):(⟨(bl s).toArray⟩:ByteArray)=s:=by simp[bl]
def Stop (r:List UInt8):Prop:=r=[]\/∃ b t,r=b::t/\(b=44\/b=41)
theorem Stop.c {r:List UInt8}(h:Stop r):upto [58,44,41] r=[]/\past [58,44,41] r=r:=by
 rcases h with rfl | ⟨b,t,rfl,h⟩
 ·exact⟨rfl,rfl⟩
 ·have:=zo (ends:=[58,44,41]) (w:=[]) (b:=b) (t:=t) (by simp) (by rcases h with rfl | rfl<;>rfl)
  simpa using this
theorem Stop.l {r:List UInt8}(h:Stop r){w:List UInt8}(hw:∀ x∈w,([44,41]:List UInt8).contains x=false):upto [44,41] (w++r)=w/\past [44,41] (w++r)=r:=by
 rcases h with rfl | ⟨b,t,rfl,h⟩
 ·rw[List.append_nil];exact zFU hw
 ·exact zo hw (by rcases h with rfl | rfl<;>rfl)
theorem zHm (c:Ct):c.good=(alike c&&Ct.goods c.inner):=by
 obtain⟨k,i,l,s,t,e,n⟩:=c;rw[Ct.good];rfl
theorem zEc : ∀ l:List Ct,Ct.goods l=l.all Ct.good
 | []=>rfl
 | c::t=>by rw[Ct.goods,zEc t];rfl
theorem zJL : ∀ n:Nat,(∀ c rest,Ct.good c=true->Stop rest->(c.text++rest).length<n->pC n (c.text++rest)=some (c,rest))/\
  (∀ acc cs rest,cs≠[]->Ct.goods cs=true->(commas (cs.map Ct.text)++41::rest).length+1<n->pL n acc (commas (cs.map Ct.text)++41::rest)=some (acc++cs,rest))
 | 0=>⟨fun c rest _ _ h=>by omega,fun acc cs rest _ _ h=>by omega⟩
 | n+1=>by
  obtain⟨ihC,ihL⟩:=zJL n;refine⟨fun c rest hg hs hn=>?_,fun acc cs rest hne hg hn=>?_⟩
  ·obtain⟨k,i,l,s,t,e,inn⟩:=c;rw[zHm,Bool.and_eq_true]at hg;obtain⟨ha,hi⟩:=hg;have hin:∀ tl,tl=commas (inn.map Ct.text)++41::rest->inn≠[]->tl.length+1<n->pL n [] tl=some (inn,rest):=by
    rintro tl rfl hne hl;have:=ihL [] inn rest hne hi hl
    simpa using this
   simp only[alike,noNum,zAC,someIn]at ha;by_cases k0:k=0
   ·subst k0;simp only[if_true,Bool.and_eq_true,decide_eq_true_eq,List.isEmpty_iff]at ha;obtain⟨⟨⟨h1,h2⟩,⟨h3,h4⟩,h5⟩,h6⟩:=ha;have e1:=zA3 (by rw[List.isEmpty_iff];exact h1);have e2:=zA3 (by rw[List.isEmpty_iff];exact h2);subst e1;subst e2;subst h3;subst h4;subst h5;subst h6;rw[zJf,List.nil_append,pC];simp[hs.c.1,Ct.zero]
   by_cases k1:k=1
   ·subst k1;simp only[if_true,if_neg (show ¬ (1:Int)=0 by decide),Bool.and_eq_true,decide_eq_true_eq,List.isEmpty_iff]at ha;obtain⟨⟨⟨h1,h2⟩,⟨h3,h4⟩,h5⟩,h6⟩:=ha;subst h3;subst h4;subst h5;subst h6;have u1:=zo (ends:=[58,44,41]) (w:=[102,115]) (b:=58) (t:=bl i++58::(bl l++rest)) (by decide) rfl;have u2:=zo (ends:=[58,40,44,41]) (w:=bl i) (b:=58) (t:=bl l++rest) (zCf h1) rfl;have u3:=hs.l (zGP h2);rw[zG5]at hn ⊢;rw[show [102,115]++58::(bl i++58::bl l)++rest=[102,115]++58::(bl i++58::(bl l++rest)) by simp];rw[pC,u1.1,u1.2];simp[zAx,u2.1,u2.2,u3.1,u3.2]
   by_cases k2:k=2
   ·subst k2;simp only[if_true,if_neg (show ¬ (2:Int)=0 by decide),if_neg (show ¬ (2:Int)=1 by decide),Bool.and_eq_true,decide_eq_true_eq]at ha;obtain⟨⟨⟨⟨⟨h1,h2⟩,⟨⟨h3,h4⟩,h5⟩,h6⟩,h7⟩,h8⟩,h9⟩:=ha;have e2:=zA3 h2;subst e2;have hne:inn≠[]:=by intro h;subst h;simp at h9
    rw[zGM]at hn ⊢;rw[show [114,97,105,100]++58::(bl i++58::(Lib.itoa s++47::(Lib.itoa t++47::(Lib.itoa e++40::(commas (inn.map Ct.text)++[41])))))++rest=[114,97,105,100]++58::(bl i++58::(Lib.itoa s++47::(Lib.itoa t++47::(Lib.itoa e++40::(commas (inn.map Ct.text)++41::rest))))) by simp]at hn ⊢;generalize htl:commas (inn.map Ct.text)++41::rest=tl at *;have u1:=zo (ends:=[58,44,41]) (w:=[114,97,105,100]) (b:=58) (t:=bl i++58::(Lib.itoa s++47::(Lib.itoa t++47::(Lib.itoa e++40::tl)))) (by decide) rfl;have u2:=zo (ends:=[58,40,44,41]) (w:=bl i) (b:=58) (t:=Lib.itoa s++47::(Lib.itoa t++47::(Lib.itoa e++40::tl))) (zCf h1) rfl;have n1:=zCp s (by omega) (by omega) 47 (Lib.itoa t++47::(Lib.itoa e++40::tl)) rfl;have n2:=zCp t (by omega) (by omega) 47 (Lib.itoa e++40::tl) rfl;have n3:=zCp e (by omega) (by omega) 40 tl rfl;have hl:=hin tl rfl hne (by simp at hn;omega);rw[pC,u1.1,u1.2];simp[zAx,u2.1,u2.2,n1,n2,n3,hl]
   by_cases k3:k=3
   ·subst k3;simp only[if_true,if_neg (show ¬ (3:Int)=0 by decide),if_neg (show ¬ (3:Int)=1 by decide),if_neg (show ¬ (3:Int)=2 by decide),Bool.and_eq_true,decide_eq_true_eq]at ha;obtain⟨⟨⟨h1,h2⟩,⟨h3,h4⟩,h5⟩,h9⟩:=ha;have e2:=zA3 h2;subst e2;subst h3;subst h4;subst h5;have hne:inn≠[]:=by intro h;subst h;simp at h9
    rw[zIJ]at hn ⊢;rw[show [99,114,121,112,116]++58::(bl i++40::(commas (inn.map Ct.text)++[41]))++rest=[99,114,121,112,116]++58::(bl i++40::(commas (inn.map Ct.text)++41::rest)) by simp]at hn ⊢;generalize htl:commas (inn.map Ct.text)++41::rest=tl at *;have u1:=zo (ends:=[58,44,41]) (w:=[99,114,121,112,116]) (b:=58) (t:=bl i++40::tl) (by decide) rfl;have u2:=zo (ends:=[58,40,44,41]) (w:=bl i) (b:=40) (t:=tl) (zCf h1) rfl;have hl:=hin tl rfl hne (by simp at hn;omega);rw[pC,u1.1,u1.2];simp[zAx,u2.1,u2.2,hl]
   by_cases k4:k=4
   ·subst k4;simp only[if_true,if_neg (show ¬ (4:Int)=0 by decide),if_neg (show ¬ (4:Int)=1 by decide),if_neg (show ¬ (4:Int)=2 by decide),if_neg (show ¬ (4:Int)=3 by decide),Bool.and_eq_true,decide_eq_true_eq]at ha;obtain⟨⟨⟨⟨h1,h2⟩,⟨⟨h3,h4⟩,h5⟩,h6⟩,h7⟩,h8,h9⟩:=ha;have e2:=zA3 h2;subst e2;subst h7;have hne:inn≠[]:=by intro h;subst h;simp at h8
    rw[zII]at hn ⊢;rw[show [112,118]++58::(bl i++58::(Lib.itoa s++47::(Lib.itoa t++40::(commas (inn.map Ct.text)++[41]))))++rest=[112,118]++58::(bl i++58::(Lib.itoa s++47::(Lib.itoa t++40::(commas (inn.map Ct.text)++41::rest)))) by simp]at hn ⊢;generalize htl:commas (inn.map Ct.text)++41::rest=tl at *;have u1:=zo (ends:=[58,44,41]) (w:=[112,118]) (b:=58) (t:=bl i++58::(Lib.itoa s++47::(Lib.itoa t++40::tl))) (by decide) rfl;have u2:=zo (ends:=[58,40,44,41]) (w:=bl i) (b:=58) (t:=Lib.itoa s++47::(Lib.itoa t++40::tl)) (zCf h1) rfl;have n1:=zCp s (by omega) (by omega) 47 (Lib.itoa t++40::tl) rfl;have n2:=zCp t (by omega) (by omega) 40 tl rfl;have hl:=hin tl rfl hne (by simp at hn;omega);rw[pC,u1.1,u1.2];simp[zAx,u2.1,u2.2,n1,n2,hl]
   by_cases k5:k=5
   ·subst k5;simp only[if_true,if_neg (show ¬ (5:Int)=0 by decide),if_neg (show ¬ (5:Int)=1 by decide),if_neg (show ¬ (5:Int)=2 by decide),if_neg (show ¬ (5:Int)=3 by decide),if_neg (show ¬ (5:Int)=4 by decide),Bool.and_eq_true,decide_eq_true_eq]at ha;obtain⟨⟨⟨h1,h2⟩,⟨h3,h4⟩,h5⟩,h8,h9⟩:=ha;have e2:=zA3 h2;subst e2;subst h3;subst h4;subst h5;have hne:inn≠[]:=by intro h;subst h;simp at h8
    rw[zG4]at hn ⊢;rw[show [116,97,98,108,101]++58::(bl i++40::(commas (inn.map Ct.text)++[41]))++rest=[116,97,98,108,101]++58::(bl i++40::(commas (inn.map Ct.text)++41::rest)) by simp]at hn ⊢;generalize htl:commas (inn.map Ct.text)++41::rest=tl at *;have u1:=zo (ends:=[58,44,41]) (w:=[116,97,98,108,101]) (b:=58) (t:=bl i++40::tl) (by decide) rfl;have u2:=zo (ends:=[58,40,44,41]) (w:=bl i) (b:=40) (t:=tl) (zCf h1) rfl;have hl:=hin tl rfl hne (by simp at hn;omega);rw[pC,u1.1,u1.2];simp[zAx,u2.1,u2.2,hl]
   simp[k0,k1,k2,k3,k4,k5]at ha
  ·cases cs with
   | nil=>exact absurd rfl hne
   | cons c t=>
    rw[Ct.goods,Bool.and_eq_true]at hg;rw[pL];cases t with
    | nil=>
     simp only[List.map_cons,List.map_nil,commas]at hn ⊢;rw[ihC c (41::rest) hg.1 (.inr ⟨_,_,rfl,.inr rfl⟩) (by omega)];simp[zAx]
    | cons d u=>
     have e:commas (List.map Ct.text (c::d::u))++41::rest=c.text++44::(commas (List.map Ct.text (d::u))++41::rest):=by
      simp[commas]
     rw[e]at hn ⊢;rw[ihC c _ hg.1 (.inr ⟨_,_,rfl,.inl rfl⟩) (by omega)];have h2:zV 41 (44::(commas (List.map Ct.text (d::u))++41::rest))=none:=by simp[zV]
     have h3:=ihL (acc++[c]) (d::u) rest (by simp) hg.2 (by simp at hn ⊢;omega);simp only[Option.bind_some,h2,zAx,h3];simp
def parseC (s:ByteArray):Option Ct:=
 if 256<(bl s).length then none else
 match pC ((bl s).length+1) (bl s)with
 | some (c,[])=>if c.valid=true then some c else none
 | _=>none
theorem zBC (s:ByteArray)(c:Ct):parseC s=some c↔(bl s).length<=256/\c.valid=true/\c.text=bl s:=by
 unfold parseC;constructor
 ·intro h;split at h
  ·cases h
  ·rename_i hl;split at h
   ·rename_i c' hp;split at h
    ·rename_i hv;injection h with h
     subst h;have:=(zHN _).1 _ _ _ hp;exact⟨by omega,hv,by rw[this];simp⟩
    ·cases h
   ·cases h
 ·rintro ⟨h1,h2,h3⟩;rw[if_neg (by omega)];have hg:c.good=true:=by unfold Ct.valid at h2;rw[Bool.and_eq_true]at h2;exact h2.2
  have:=(zJL ((bl s).length+1)).1 c [] hg (.inl rfl) (by simp[h3]);rw[List.append_nil,h3]at this;rw[this];simp[h2]
mutual
def Ct.count : Ct->Nat
 | .mk _ _ _ _ _ _ n=>Ct.counts n+1
def Ct.counts : List Ct->Nat
 | []=>0
 | c::t=>c.count+Ct.counts t
end
theorem zAL : ∀ (l m:List Ct),Ct.counts (l++m)=Ct.counts l+Ct.counts m
 | [],m=>by simp[Ct.counts]
 | c::t,m=>by rw[List.cons_append,Ct.counts,Ct.counts,zAL t m];omega
mutual
theorem zC7 : ∀ c:Ct,c.depth<=c.count
 | .mk k i l s t e n=>by
  have h:=zA2 n;rw[Ct.depth,Ct.count];split<;>omega
theorem zA2 : ∀ l:List Ct,Ct.depths l<=Ct.counts l
 | []=>by simp[Ct.depths,Ct.counts]
 | c::t=>by
  have h1:=zC7 c;have h2:=zA2 t;rw[Ct.depths,Ct.counts];omega
end
theorem zEg : ∀ c:Ct,0<c.count
 | .mk k i l s t e n=>by rw[Ct.count];omega
theorem zAN : ∀ l:List Ct,l.length<=Ct.counts l
 | []=>by simp
 | c::t=>by
  have h1:=zEg c;have h2:=zAN t;rw[List.length_cons,Ct.counts];omega
theorem zAo {c:Ct}:∀ {l:List Ct},c∈l->c.count<=Ct.counts l
 | [],h=>by cases h
 | d::t,h=>by
  rw[Ct.counts];rcases List.mem_cons.1 h with rfl | h
  ·omega
  ·have:=zAo h;omega
theorem zEW {c:Ct}:∀ {l:List Ct},c∈l->c.depth<=Ct.depths l
 | [],h=>by cases h
 | d::t,h=>by
  rw[Ct.depths];rcases List.mem_cons.1 h with rfl | h
  ·omega
  ·have:=zEW h;omega
theorem zC6 : ∀ (l:List Ct) (c:Ct),Ct.depths (l++[c])=max (Ct.depths l) c.depth
 | [],c=>by simp[Ct.depths]
 | d::t,c=>by rw[List.cons_append,Ct.depths,Ct.depths,zC6 t c];omega
theorem zBR (ends r:List UInt8):(past ends r).length<=r.length:=by
 have h:=congrArg List.length (zAG ends r);rw[List.length_append]at h;omega
theorem ze {b:UInt8}{r t:List UInt8}(h:zV b r=some t):r.length=t.length+1:=by rw[zg h];rfl
theorem zAO {r:List UInt8}{p:Int×List UInt8}(h:pNum r=some p):p.2.length<=r.length:=by
 have:=congrArg List.length (zAm (v:=p.1) (r':=p.2) h);rw[List.length_append]at this;omega
theorem zDu : ∀ n:Nat,(∀ r c r',pC n r=some (c,r')->c.count+r'.length<=r.length+1)/\(∀ acc r l r',pL n acc r=some (l,r')->Ct.counts l+r'.length<=Ct.counts acc+r.length)
 | 0=>⟨fun r c r' h=>by simp[pC]at h,fun acc r l r' h=>by simp[pL]at h⟩
 | n+1=>by
  obtain⟨ihC,ihL⟩:=zDu n;have hin:∀ ra (pb:List Ct×List UInt8),pL n [] ra=some pb->Ct.counts pb.1+pb.2.length<=ra.length:=fun ra pb h=>by
   have:=ihL [] ra pb.1 pb.2 h
   simpa [Ct.counts]using this
  refine⟨fun r c r' h=>?_,fun acc r l r' h=>?_⟩
  ·have hr:=zBR [58,44,41] r;rw[pC]at h;by_cases h0:upto [58,44,41] r=[]
   ·rw[if_pos h0]at h;injection h with h
    injection h with h1 h2
    subst h1;subst h2;simp[Ct.zero,Ct.count,Ct.counts];omega
   rw[if_neg h0]at h;obtain⟨r2,hr2,h⟩:=Option.bind_eq_some_iff.1 h;have e2:=ze hr2;have hid:=zBR [58,40,44,41] r2;simp only at h;generalize upto [58,40,44,41] r2=di at h;generalize past [58,40,44,41] r2=r3 at h hid;split at h
   ·obtain⟨r4,hr4,h⟩:=Option.bind_eq_some_iff.1 h;have e4:=ze hr4;have hl:=zBR [44,41] r4;injection h with h
    injection h with h1 h2
    subst h1;subst h2;simp[Ct.count,Ct.counts];omega
   split at h
   ·obtain⟨r4,hr4,h⟩:=Option.bind_eq_some_iff.1 h;obtain⟨p5,hp5,h⟩:=Option.bind_eq_some_iff.1 h;obtain⟨r6,hr6,h⟩:=Option.bind_eq_some_iff.1 h;obtain⟨p7,hp7,h⟩:=Option.bind_eq_some_iff.1 h;obtain⟨r8,hr8,h⟩:=Option.bind_eq_some_iff.1 h;obtain⟨p9,hp9,h⟩:=Option.bind_eq_some_iff.1 h;obtain⟨ra,hra,h⟩:=Option.bind_eq_some_iff.1 h;obtain⟨pb,hpb,h⟩:=Option.bind_eq_some_iff.1 h;injection h with h
    injection h with h1 h2
    subst h1;subst h2;have e5:=zAO hp5;have e7:=zAO hp7;have e9:=zAO hp9;have e4:=ze hr4;have e6:=ze hr6;have e8:=ze hr8;have ea:=ze hra;have eb:=hin ra pb hpb;rw[Ct.count];omega
   split at h
   ·obtain⟨ra,hra,h⟩:=Option.bind_eq_some_iff.1 h;obtain⟨pb,hpb,h⟩:=Option.bind_eq_some_iff.1 h;injection h with h
    injection h with h1 h2
    subst h1;subst h2;have ea:=ze hra;have eb:=hin ra pb hpb;rw[Ct.count];omega
   split at h
   ·obtain⟨r4,hr4,h⟩:=Option.bind_eq_some_iff.1 h;obtain⟨p5,hp5,h⟩:=Option.bind_eq_some_iff.1 h;obtain⟨r6,hr6,h⟩:=Option.bind_eq_some_iff.1 h;obtain⟨p7,hp7,h⟩:=Option.bind_eq_some_iff.1 h;obtain⟨ra,hra,h⟩:=Option.bind_eq_some_iff.1 h;obtain⟨pb,hpb,h⟩:=Option.bind_eq_some_iff.1 h;injection h with h
    injection h with h1 h2
    subst h1;subst h2;have e5:=zAO hp5;have e7:=zAO hp7;have e4:=ze hr4;have e6:=ze hr6;have ea:=ze hra;have eb:=hin ra pb hpb;rw[Ct.count];omega
   split at h
   ·obtain⟨ra,hra,h⟩:=Option.bind_eq_some_iff.1 h;obtain⟨pb,hpb,h⟩:=Option.bind_eq_some_iff.1 h;injection h with h
    injection h with h1 h2
    subst h1;subst h2;have ea:=ze hra;have eb:=hin ra pb hpb;rw[Ct.count];omega
   ·cases h
  ·rw[pL]at h;obtain⟨p,hp,h⟩:=Option.bind_eq_some_iff.1 h;have e1:=ihC r p.1 p.2 hp;cases hs:zV 41 p.2 with
   | some r2=>
    rw[hs]at h;simp only at h;injection h with h
    injection h with h1 h2
    subst h1;subst h2;have e2:=ze hs;rw[zAL];simp only[Ct.counts];omega
   | none=>
    rw[hs]at h;simp only at h;obtain⟨r2,hr2,h⟩:=Option.bind_eq_some_iff.1 h;have e2:=ze hr2;have:=ihL _ r2 l r' h;rw[zAL]at this;simp only[Ct.counts]at this;omega
end Go.Proofs.YtmajgldaplkpiaaGreatDoor
