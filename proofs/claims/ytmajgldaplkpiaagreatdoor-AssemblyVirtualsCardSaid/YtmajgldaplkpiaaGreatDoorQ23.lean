import Derived.Test.YtmajgldaplkpiaaGreatDoorQ22
import Derived.Lib.Join
import Derived.Test.YtmajgldaplkpiaaGreatDoorQ11
import Derived.Test.YtmajgldaplkpiaaGreatDoorStrs3
import Derived.Lib.AtoiAllCases
import Derived.Lib.AppendIntMem
import Derived.Lib.TrimU
import Derived.Lib.OthersKept
import Derived.Laws.RangeString
import Derived.Laws.Runes
import Derived.Deep.LoopGhost
import Derived.WalkMore
namespace Go.Proofs.YtmajgldaplkpiaaGreatDoor
open Go Go.RowKit Go.Maps
set_option linter.unusedVariables false
set_option maxRecDepth 100000
set_option maxHeartbeats 2000000
mutual
def Ct.walk : Ct->List Ct
 | .mk k i l s t e n=>.mk k i l s t e n::Ct.walks n
def Ct.walks : List Ct->List Ct
 | []=>[]
 | c::t=>c.walk++Ct.walks t
end
mutual
theorem zCP : ∀ c:Ct,c.walk.length=c.count
 | .mk k i l s t e n=>by rw[Ct.walk,Ct.count,List.length_cons,zBf n]
theorem zBf : ∀ l:List Ct,(Ct.walks l).length=Ct.counts l
 | []=>rfl
 | c::t=>by rw[Ct.walks,Ct.counts,List.length_append,zCP c,zBf t]
end
theorem zAh : ∀ (l m:List Ct),Ct.walks (l++m)=Ct.walks l++Ct.walks m
 | [],m=>rfl
 | c::t,m=>by rw[List.cons_append,Ct.walks,Ct.walks,zAh t m,List.append_assoc]
mutual
theorem zC0 : ∀ c:Ct,c.good=c.walk.all alike
 | .mk k i l s t e n=>by rw[Ct.good,Ct.walk,List.all_cons,zDb n]
theorem zDb : ∀ l:List Ct,Ct.goods l=(Ct.walks l).all alike
 | []=>rfl
 | c::t=>by rw[Ct.goods,Ct.walks,List.all_append,zC0 c,zDb t]
end
def SmallC (m:Nat)(d:Ct):Prop:=d.id.size<=m/\d.label.size<=m
theorem SmallC.mono {m m':Nat}{d:Ct}(h:SmallC m d)(hm:m<=m'):SmallC m' d:=⟨Nat.le_trans h.1 hm,Nat.le_trans h.2 hm⟩
theorem zFT (ends r:List UInt8):(upto ends r).length<=r.length:=by
 have h:=congrArg List.length (zAG ends r);rw[List.length_append]at h;omega
theorem zHO : ∀ n:Nat,(∀ r c r',pC n r=some (c,r')->∀ d∈c.walk,SmallC r.length d)/\(∀ acc r l r',pL n acc r=some (l,r')->∀ d∈Ct.walks l,d∈Ct.walks acc\/SmallC r.length d)
 | 0=>⟨fun r c r' h=>by simp[pC]at h,fun acc r l r' h=>by simp[pL]at h⟩
 | n+1=>by
  obtain⟨ihC,ihL⟩:=zHO n;have ihN:=(zDu n).1;have hin:∀ ra (pb:List Ct×List UInt8),pL n [] ra=some pb->∀ d∈Ct.walks pb.1,SmallC ra.length d:=fun ra pb h d hd=>by
   rcases ihL [] ra pb.1 pb.2 h d hd with h | h
   ·simp[Ct.walks]at h
   ·exact h
  refine⟨fun r c r' h=>?_,fun acc r l r' h=>?_⟩
  ·have hr:=zBR [58,44,41] r;rw[pC]at h;by_cases h0:upto [58,44,41] r=[]
   ·rw[if_pos h0]at h;injection h with h
    injection h with h1 h2
    subst h1;subst h2;intro d hd;simp[Ct.zero,Ct.walk,Ct.walks]at hd;subst hd;exact⟨Nat.zero_le _,Nat.zero_le _⟩
   rw[if_neg h0]at h;obtain⟨r2,hr2,h⟩:=Option.bind_eq_some_iff.1 h;have e2:=ze hr2;have hid:=zBR [58,40,44,41] r2;have hiu:=zFT [58,40,44,41] r2;simp only at h;generalize upto [58,40,44,41] r2=di at h hiu;generalize past [58,40,44,41] r2=r3 at h hid;split at h
   ·obtain⟨r4,hr4,h⟩:=Option.bind_eq_some_iff.1 h;have e4:=ze hr4;have hl:=zBR [44,41] r4;injection h with h
    injection h with h1 h2
    subst h1;subst h2;have hlu:=zFT [44,41] r4;intro d hd;simp only[Ct.walk,Ct.walks,List.mem_singleton]at hd;subst hd;exact⟨by show di.toArray.size<=_;simp;omega,by show (upto [44,41] r4).toArray.size<=_;simp;omega⟩
   split at h
   ·obtain⟨r4,hr4,h⟩:=Option.bind_eq_some_iff.1 h;obtain⟨p5,hp5,h⟩:=Option.bind_eq_some_iff.1 h;obtain⟨r6,hr6,h⟩:=Option.bind_eq_some_iff.1 h;obtain⟨p7,hp7,h⟩:=Option.bind_eq_some_iff.1 h;obtain⟨r8,hr8,h⟩:=Option.bind_eq_some_iff.1 h;obtain⟨p9,hp9,h⟩:=Option.bind_eq_some_iff.1 h;obtain⟨ra,hra,h⟩:=Option.bind_eq_some_iff.1 h;obtain⟨pb,hpb,h⟩:=Option.bind_eq_some_iff.1 h;injection h with h
    injection h with h1 h2
    subst h1;subst h2;have e5:=zAO hp5;have e7:=zAO hp7;have e9:=zAO hp9;have e4:=ze hr4;have e6:=ze hr6;have e8:=ze hr8;have ea:=ze hra;have eb:=hin ra pb hpb;intro d hd;rw[Ct.walk]at hd;rcases List.mem_cons.1 hd with rfl | hd
    ·exact⟨by show di.toArray.size<=_;simp;omega,Nat.zero_le _⟩
    ·exact(eb d hd).mono (by omega)
   split at h
   ·obtain⟨ra,hra,h⟩:=Option.bind_eq_some_iff.1 h;obtain⟨pb,hpb,h⟩:=Option.bind_eq_some_iff.1 h;injection h with h
    injection h with h1 h2
    subst h1;subst h2;have ea:=ze hra;have eb:=hin ra pb hpb;intro d hd;rw[Ct.walk]at hd;rcases List.mem_cons.1 hd with rfl | hd
    ·exact⟨by show di.toArray.size<=_;simp;omega,Nat.zero_le _⟩
    ·exact(eb d hd).mono (by omega)
   split at h
   ·obtain⟨r4,hr4,h⟩:=Option.bind_eq_some_iff.1 h;obtain⟨p5,hp5,h⟩:=Option.bind_eq_some_iff.1 h;obtain⟨r6,hr6,h⟩:=Option.bind_eq_some_iff.1 h;obtain⟨p7,hp7,h⟩:=Option.bind_eq_some_iff.1 h;obtain⟨ra,hra,h⟩:=Option.bind_eq_some_iff.1 h;obtain⟨pb,hpb,h⟩:=Option.bind_eq_some_iff.1 h;injection h with h
    injection h with h1 h2
    subst h1;subst h2;have e5:=zAO hp5;have e7:=zAO hp7;have e4:=ze hr4;have e6:=ze hr6;have ea:=ze hra;have eb:=hin ra pb hpb;intro d hd;rw[Ct.walk]at hd;rcases List.mem_cons.1 hd with rfl | hd
    ·exact⟨by show di.toArray.size<=_;simp;omega,Nat.zero_le _⟩
    ·exact(eb d hd).mono (by omega)
   split at h
   ·obtain⟨ra,hra,h⟩:=Option.bind_eq_some_iff.1 h;obtain⟨pb,hpb,h⟩:=Option.bind_eq_some_iff.1 h;injection h with h
    injection h with h1 h2
    subst h1;subst h2;have ea:=ze hra;have eb:=hin ra pb hpb;intro d hd;rw[Ct.walk]at hd;rcases List.mem_cons.1 hd with rfl | hd
    ·exact⟨by show di.toArray.size<=_;simp;omega,Nat.zero_le _⟩
    ·exact(eb d hd).mono (by omega)
   ·cases h
  ·rw[pL]at h;obtain⟨p,hp,h⟩:=Option.bind_eq_some_iff.1 h;have e1:=ihC r p.1 p.2 hp;cases hs:zV 41 p.2 with
   | some r2=>
    rw[hs]at h;simp only at h;injection h with h
    injection h with h1 h2
    subst h1;subst h2;have e2:=ze hs;intro d hd;rw[zAh]at hd;rcases List.mem_append.1 hd with hd | hd
    ·exact .inl hd
    ·exact .inr (e1 d (by simpa [Ct.walks]using hd))
   | none=>
    rw[hs]at h;simp only at h;obtain⟨r2,hr2,h⟩:=Option.bind_eq_some_iff.1 h;have e2:=ze hr2;have e3:=ihN r p.1 p.2 hp;have e4:=zEg p.1;intro d hd;rcases ihL _ r2 l r' h d hd with h5 | h5
    ·rw[zAh]at h5;rcases List.mem_append.1 h5 with h5 | h5
     ·exact .inl h5
     ·exact .inr (e1 d (by simpa [Ct.walks]using h5))
    ·exact .inr (h5.mono (by omega))
mutual
theorem zCy : ∀ {c d:Ct},d∈c.walk->d.inner.length<=c.count
 | .mk k i l s t e n,d,h=>by
  rw[Ct.walk]at h;rw[Ct.count];rcases List.mem_cons.1 h with rfl | h
  ·have:=zAN n;show n.length<=_
   omega
  ·have:=zDa h;omega
theorem zDa : ∀ {n:List Ct} {d:Ct},d∈Ct.walks n->d.inner.length<=Ct.counts n
 | [],d,h=>by simp[Ct.walks]at h
 | c::t,d,h=>by
  rw[Ct.walks]at h;rw[Ct.counts];rcases List.mem_append.1 h with h | h
  ·have:=zCy h;omega
  ·have:=zDa h;omega
end
theorem zAe (a b:ByteArray):bl (a++b)=bl a++bl b:=by simp[bl]
theorem zCM {a b:ByteArray}(h:bl a=bl b):a=b:=by
 rw[<-zKs a,<-zKs b,h]
def Ct.txt (c:Ct):ByteArray:=⟨c.text.toArray⟩
theorem zB3 (c:Ct):bl c.txt=c.text:=zDM _
theorem zCx : ∀ l:List (List UInt8),Lib.join l [44]=commas l
 | []=>rfl
 | [x]=>by simp[Lib.join,commas,List.intercalate]
 | x::y::t=>by
  have h:=zCx (y::t);unfold Lib.join at *;rw[commas,<-h];simp[List.intercalate,List.intersperse]
theorem zCI {x:List UInt8}:∀ {l:List (List UInt8)},x∈l->x.length<=(commas l).length
 | [],h=>by cases h
 | [y],h=>by simp at h;subst h;simp[commas]
 | y::z::t,h=>by
  rw[commas];rcases List.mem_cons.1 h with rfl | h
  ·simp
  ·have:=zCI h;simp;omega
def inTxt (n:List Ct):ByteArray:=⟨(commas (n.map Ct.text)).toArray⟩
theorem zK2 (n:List Ct):bl (inTxt n)=commas (n.map Ct.text):=zDM _
theorem zHi (n:List Ct):(⟨(Lib.join ((n.map Ct.txt).map (·.data.toList)) [44]).toArray⟩:ByteArray)=inTxt n:=by
 rw[zCx,List.map_map];have:(fun c=>((fun x:ByteArray=>x.data.toList)∘Ct.txt) c)=Ct.text:=funext fun c=>zB3 c
 show (⟨(commas (n.map (fun c=>((fun x:ByteArray=>x.data.toList)∘Ct.txt) c))).toArray⟩:ByteArray)=_
 rw[this];rfl
theorem zKz (n:List Ct):(Lib.join ((n.map Ct.txt).map (·.data.toList)) [44]).length=(commas (n.map Ct.text)).length:=by
 have:=congrArg bl (zHi n);rw[zDM,zK2]at this;rw[this]
theorem zAr {i:ByteArray}(h:isId i=true):i.size<=16:=by
 unfold isId at h;simp only[Bool.and_eq_true,decide_eq_true_eq]at h;exact h.1.2
theorem zCG {c:Ct}(h:c.good=true):alike c=true/\c.inner.all Ct.good=true:=by
 rw[zHm,Bool.and_eq_true,zEc]at h;exact h
theorem zDG {k s t e:Int}{i l:ByteArray}{n:List Ct}(h:alike (.mk k i l s t e n)=true):i.size<=16/\l.size<=16:=by
 have he:∀ x:ByteArray,(bl x).isEmpty=true->x.size<=16:=fun x hx=>by rw[zA3 hx];decide
 rw[alike]at h;by_cases hk0:k=0
 ·rw[if_pos hk0]at h;simp only[Bool.and_eq_true]at h;exact⟨he _ h.1.1.1,he _ h.1.1.2⟩
 rw[if_neg hk0]at h;by_cases hk1:k=1
 ·rw[if_pos hk1]at h;simp only[Bool.and_eq_true,Bool.or_eq_true]at h;exact⟨zAr h.1.1.1,h.1.1.2.elim (he _) zAr⟩
 rw[if_neg hk1]at h;by_cases hk2:k=2
 ·rw[if_pos hk2]at h;simp only[Bool.and_eq_true]at h;exact⟨zAr h.1.1.1.1.1,he _ h.1.1.1.1.2⟩
 rw[if_neg hk2]at h;by_cases hk3:k=3
 ·rw[if_pos hk3]at h;simp only[Bool.and_eq_true]at h;exact⟨zAr h.1.1.1,he _ h.1.1.2⟩
 rw[if_neg hk3]at h;by_cases hk4:k=4
 ·rw[if_pos hk4]at h;simp only[Bool.and_eq_true]at h;exact⟨zAr h.1.1.1.1,he _ h.1.1.1.2⟩
 rw[if_neg hk4]at h;by_cases hk5:k=5
 ·rw[if_pos hk5]at h;simp only[Bool.and_eq_true]at h;exact⟨zAr h.1.1.1,he _ h.1.1.2⟩
 rw[if_neg hk5]at h;cases h
theorem zDj {k s t e:Int}{i l:ByteArray}{n:List Ct}(h:alike (.mk k i l s t e n)=true):((k=0\/k=1)/\n=[])\/(k=2/\1<=s/\s<=16/\1<=t/\t<=16/\1<=e/\e<=16)\/k=3\/(k=4/\1<=s/\s<=16/\1<=t/\t<=16)\/k=5:=by
 rw[alike]at h;by_cases hk0:k=0
 ·rw[if_pos hk0]at h;simp only[Bool.and_eq_true,List.isEmpty_iff]at h;exact .inl ⟨.inl hk0,h.2⟩
 rw[if_neg hk0]at h;by_cases hk1:k=1
 ·rw[if_pos hk1]at h;simp only[Bool.and_eq_true,List.isEmpty_iff]at h;exact .inl ⟨.inr hk1,h.2⟩
 rw[if_neg hk1]at h;by_cases hk2:k=2
 ·rw[if_pos hk2]at h;simp only[Bool.and_eq_true,zAC,decide_eq_true_eq]at h;exact .inr (.inl ⟨hk2,by omega⟩)
 rw[if_neg hk2]at h;by_cases hk3:k=3
 ·rw[if_pos hk3]at h;exact .inr (.inr (.inl hk3))
 rw[if_neg hk3]at h;by_cases hk4:k=4
 ·rw[if_pos hk4]at h;simp only[Bool.and_eq_true,zAC,decide_eq_true_eq]at h;exact .inr (.inr (.inr (.inl ⟨hk4,by omega⟩)))
 rw[if_neg hk4]at h;by_cases hk5:k=5
 ·rw[if_pos hk5]at h;exact .inr (.inr (.inr (.inr hk5)))
 rw[if_neg hk5]at h;cases h
theorem zK0 {c:Ct}(h:c.good=true):(commas (c.inner.map Ct.text)).length<=c.text.length:=by
 obtain⟨k,i,l,s,t,e,n⟩:=c;have ha:=(zCG h).1;show (commas (n.map Ct.text)).length<=_
 rcases zDj ha with⟨_,rfl⟩ | ⟨rfl,_⟩ | rfl | ⟨rfl,_⟩ | rfl
 ·simp[commas]
 ·rw[zGM];simp;omega
 ·rw[zIJ];simp;omega
 ·rw[zII];simp;omega
 ·rw[zG4];simp;omega
theorem zIp (k:Nat):Lib.itoa (k:Int)=Lib.decDigits k:=by unfold Lib.itoa;rw[if_neg (by omega)];simp
def numBA (k:Nat):ByteArray:=⟨(Lib.decDigits k).toArray⟩
theorem zBq {k:Nat}(h1:1<=k)(h2:k<=16):(numBA k).size<=2:=by
 show (Lib.decDigits k).toArray.size<=2
 rw[zEe k h1 h2];split<;>simp
theorem zJQ (k:Nat):bl (numBA k)=Lib.itoa (k:Int):=by rw[zIp];exact zDM _
def boxed (n:List Ct):ByteArray:=⟨#[40]⟩++inTxt n++⟨#[41]⟩
theorem zCU (n:List Ct):bl (boxed n)=40::(commas (n.map Ct.text)++[41]):=by unfold boxed;rw[zAe,zAe,zK2];rfl
section
variable (i l:ByteArray)(s t e:Int)(n:List Ct)(a b c:Nat)
theorem txt0 : (Ct.mk 0 i l s t e n).txt=⟨#[]⟩:=zCM (by rw[zB3,zJf])
theorem txt1 : (Ct.mk 1 i l s t e n).txt=(⟨#[102,115,58]⟩:ByteArray)++i++⟨#[58]⟩++l:=zCM (by rw[zB3,zG5];simp only[zAe];simp[bl])
theorem txt2 : (Ct.mk 2 i l a b c n).txt=(⟨#[114,97,105,100,58]⟩:ByteArray)++i++⟨#[58]⟩++numBA a++⟨#[47]⟩++numBA b++⟨#[47]⟩++numBA c++boxed n:=zCM (by rw[zB3,zGM];simp only[zAe,zJQ,zCU];simp[bl])
theorem txt3 : (Ct.mk 3 i l s t e n).txt=(⟨#[99,114,121,112,116,58]⟩:ByteArray)++i++boxed n:=zCM (by rw[zB3,zIJ];simp only[zAe,zCU];simp[bl])
theorem txt4 : (Ct.mk 4 i l a b e n).txt=(⟨#[112,118,58]⟩:ByteArray)++i++⟨#[58]⟩++numBA a++⟨#[47]⟩++numBA b++boxed n:=zCM (by rw[zB3,zII];simp only[zAe,zJQ,zCU];simp[bl])
theorem txt5 : (Ct.mk 5 i l s t e n).txt=(⟨#[116,97,98,108,101,58]⟩:ByteArray)++i++boxed n:=zCM (by rw[zB3,zG4];simp only[zAe,zCU];simp[bl])
end
def Ascii (s:ByteArray):Prop:=∀ (j:Nat) b,s.data.toList[j]?=some b->b.toNat<128
theorem zJV (w:World):(zeroValue 386).run Tryz.prog w=.ok (.agg (Array.replicate 256 (.bool false))) w:=by kernel_rfl
theorem zHq (n b0 b1 b2 b3:Nat)(h:128<=b0):128<=(Lib.decodeN n b0 b1 b2 b3).1/\((Lib.decodeN n b0 b1 b2 b3).2=1\/((Lib.decodeN n b0 b1 b2 b3).2=2/\1<n/\128<=b1)\/((Lib.decodeN n b0 b1 b2 b3).2=3/\2<n/\128<=b1/\128<=b2)\/((Lib.decodeN n b0 b1 b2 b3).2=4/\3<n/\128<=b1/\128<=b2/\128<=b3)):=by
 unfold Lib.decodeN;rw[if_neg (by omega)]
 repeat' split
 all_goals (refine⟨?_,?_⟩)
 all_goals first
  | exact .inl rfl
  | exact .inr (.inl ⟨rfl,by omega,by omega⟩)
  | exact .inr (.inr (.inl ⟨rfl,by omega,by omega,by omega⟩))
  | exact .inr (.inr (.inr ⟨rfl,by omega,by omega,by omega,by omega⟩))
  | (simp only;omega)
theorem zFs (s:ByteArray)(i:Nat)(x:UInt8)(h:s.data.toList[i]?=some x):s.get! i=x:=by
 have h2:s.data[i]?=some x:=by rw[<-Array.getElem?_toList];exact h
 show s.data[i]! = x
 rw[getElem!_def,h2]
theorem zF1 (s:ByteArray)(pos:Nat)(x:UInt8)(hx:s.data.toList[pos]?=some x)(hb:128<=x.toNat):
  128<=(Utf8.decode s pos).1/\pos+(Utf8.decode s pos).2<=s.size/\∀ j y,pos<=j->j<pos+(Utf8.decode s pos).2->s.data.toList[j]?=some y->128<=y.toNat:=by
 have hlen:s.data.toList.length=s.size:=(Lib.size_eq s).symm;have hp:pos<s.size:=by rw[<-hlen];exact(List.getElem?_eq_some_iff.1 hx).1
 have h0:=zFs s pos x hx;rw[Lib.decode_at];have key:=zHq (s.size-pos) (s.get! pos).toNat (s.get! (pos+1)).toNat (s.get! (pos+2)).toNat (s.get! (pos+3)).toNat (by rw[h0];exact hb);refine⟨key.1,?_,?_⟩
 ·rcases key.2 with h | ⟨h,_⟩ | ⟨h,_⟩ | ⟨h,_⟩<;>omega
 ·intro j y h1 h2 hy;have hg:=zFs s j y hy;rcases key.2 with h | ⟨h,h3,h4⟩ | ⟨h,h3,h4,h5⟩ | ⟨h,h3,h4,h5,h6⟩
  ·rw[h]at h2;obtain rfl:j=pos:=by omega
   rw[<-hg,h0];exact hb
  ·rw[h]at h2;rcases(by omega:j=pos\/j=pos+1)with rfl | rfl
   ·rw[<-hg,h0];exact hb
   ·rw[<-hg];exact h4
  ·rw[h]at h2;rcases(by omega:j=pos\/j=pos+1\/j=pos+2)with rfl | rfl | rfl
   ·rw[<-hg,h0];exact hb
   ·rw[<-hg];exact h4
   ·rw[<-hg];exact h5
  ·rw[h]at h2;rcases(by omega:j=pos\/j=pos+1\/j=pos+2\/j=pos+3)with rfl | rfl | rfl | rfl
   ·rw[<-hg,h0];exact hb
   ·rw[<-hg];exact h4
   ·rw[<-hg];exact h5
   ·rw[<-hg];exact h6
theorem zIv (r:Nat)(h:128<=r):2<=(Utf8.encode (r:Int)).size/\(Utf8.encode (r:Int)).size<=4/\∀ (j:Nat) y,(Utf8.encode (r:Int)).data.toList[j]?=some y->128<=y.toNat:=by
 have hs:∀ l:List UInt8,(∀ y∈l,128<=y.toNat)->∀ (j:Nat) y,(⟨l.toArray⟩:ByteArray).data.toList[j]?=some y->128<=y.toNat:=fun l hl j y hy=>hl y (by simpa using List.mem_of_getElem? hy)
 have key:∀ c:Nat,128<=c->c<=1114111->∀ e:ByteArray,e=(if c<0x80 then ⟨#[UInt8.ofNat c]⟩else if c<0x800 then ⟨#[UInt8.ofNat (0xC0+c / 64),UInt8.ofNat (0x80+c % 64)]⟩
   else if c<0x10000 then ⟨#[UInt8.ofNat (0xE0+c / 4096),UInt8.ofNat (0x80+c / 64 % 64),UInt8.ofNat (0x80+c % 64)]⟩
   else ⟨#[UInt8.ofNat (0xF0+c / 262144),UInt8.ofNat (0x80+c / 4096 % 64),UInt8.ofNat (0x80+c / 64 % 64),UInt8.ofNat (0x80+c % 64)]⟩)->2<=e.size/\e.size<=4/\∀ (j:Nat) y,e.data.toList[j]?=some y->128<=y.toNat:=by
  rintro c h1 h2 e rfl;rw[if_neg (by omega)];split
  ·refine⟨by show 2<=2;decide,by show 2<=4;decide,hs _ ?_⟩;intro y hy;simp only[List.mem_cons,List.not_mem_nil,or_false]at hy;rcases hy with rfl | rfl<;>(simp only[UInt8.toNat_ofNat'];omega)
  split
  ·refine⟨by show 2<=3;decide,by show 3<=4;decide,hs _ ?_⟩;intro y hy;simp only[List.mem_cons,List.not_mem_nil,or_false]at hy;rcases hy with rfl | rfl | rfl<;>(simp only[UInt8.toNat_ofNat'];omega)
  ·refine⟨by show 2<=4;decide,by show 4<=4;decide,hs _ ?_⟩;intro y hy;simp only[List.mem_cons,List.not_mem_nil,or_false]at hy;rcases hy with rfl | rfl | rfl | rfl<;>(simp only[UInt8.toNat_ofNat'];omega)
 by_cases hv:Utf8.valid (r:Int)=true
 ·refine key r h ?_ _ ?_
  ·unfold Utf8.valid at hv;simp only[Bool.or_eq_true,Bool.and_eq_true,decide_eq_true_eq]at hv;omega
  ·unfold Utf8.encode;rw[if_pos hv];simp only[Int.toNat_natCast]
 ·refine key 0xFFFD (by decide) (by decide) _ ?_;unfold Utf8.encode;rw[if_neg hv];rfl
theorem zJW (r:Int)(w:World)(h:0<=r):
  Calls Tryz.prog 351 #[.int .i32 r] w fun e w'=>RetB e/\w'=w:=by
 go_enter Tryz.func351,Tryz.ntmps351
 by_cases h1:r<55296
 ·go_wp2;go_ret;exact⟨RetB.mk true,rfl⟩
 ·by_cases h2:57343<r
  ·by_cases h3:r<=1114111
   ·go_wp2;go_ret;exact⟨RetB.mk true,rfl⟩
   ·go_wp2;go_ret;exact⟨RetB.mk false,rfl⟩
  ·go_wp2;go_ret;exact⟨RetB.mk false,rfl⟩
theorem zJR {s:ByteArray}(h:Ascii s){i:Nat}(hi:i<s.size):(s[i]'hi).toNat<128:=by
 refine h i _ ?_;rw[Array.getElem?_toList];exact Array.getElem?_eq_getElem (by simpa using hi)
theorem zH8 {s:ByteArray}(h:Ascii s){b:UInt8}(hb:128<=b.toNat)(k:Nat):Lib.indexByte (s.extract k s.size).data.toList ((b.toNat:Int)).toNat.toUInt8<0:=by
 have e:((b.toNat:Int)).toNat.toUInt8=b:=by simp
 rw[e];have h1:=Lib.contains_iff_indexByte (s.extract k s.size).data.toList b;have h2:(s.extract k s.size).data.toList.contains b=false:=by
  rw[Bool.eq_false_iff];intro hc;rw[List.contains_iff_mem,Lib.extract_to_end]at hc;obtain⟨m,hm⟩:=List.getElem?_of_mem (List.mem_of_mem_drop hc);have:=h m b hm;omega
 rw[h2]at h1;have:=of_decide_eq_false h1.symm;omega
theorem zEo (s:ByteArray)(r:Nat)(w:World)(hs:s.size<=1000)(ha:Ascii s)(h1:128<=r)(h2:r<=1114111):
  Calls Tryz.prog 331 #[.string s,.int .i32 (r:Int)] w fun e w'=>e=.returned (.int .i64 (-1))/\Fr No w w':=by
 have hm:s.size<=9223372036854775807:=by omega
 have n1:¬ (r:Int)<128:=by omega
 have Ha:=Lib.hid ha;clear ha
 go_enter Tryz.func331,Tryz.ntmps331
 by_cases he:r=65533
 ·subst he
  go_wp2_with fail
  go_loopg [5] s.size (fun g _ wx=>∃ i:Nat,i+g=s.size/\wx=w.iter s i)
  case atStart=>exact⟨0,by omega,rfl⟩
  case round=>
   obtain⟨i,hig,rfl⟩:=hrel;cases gk with
   | zero=>
    obtain rfl:i=s.size:=by omega
    have hnx:=run_next_end (P:=Tryz.prog) w s s.size;go_wp2;go_ret;exact⟨rfl,Fr.refl _ _ |>.alloc _⟩
   | succ g=>
    have hi:i<s.size:=by omega
    have h128:=zJR Ha.out hi;have hnx:=fun ty=>run_next_ascii (P:=Tryz.prog) w s i ty hi h128
    have hne:¬ ((s[i]'hi).toNat:Int)=65533:=by omega
    go_wp2_with fail
    go_roundg g
    case measure=>omega
    case rel=>exact⟨i+1,by omega,rfl⟩
 have n2:¬ (r:Int)=65533:=by omega
 have n3:(0:Int)<=r:=by omega
 have henc:=zIv r h1
 go_wp2_with fail
 refine(zJW _ _ (by omega)).mono ?_;rintro e w1 ⟨⟨b,rfl⟩,rfl⟩;cases b with
 | false=>
  go_wp2_with fail
  go_ret;exact⟨rfl,Fr.refl _ _⟩
 | true=>
  go_wp2_with fail
  refine wp_scope_straight ?_
  go_upto_region 2 with(fail)
  obtain⟨L,hL⟩:∃ L,(Utf8.encode (r:Int)).size=L+1:=⟨(Utf8.encode (r:Int)).size-1,by omega⟩
  generalize Utf8.encode (r:Int)=E at *;obtain⟨e1,e2,e3⟩:=henc;have hL':((E.size:Nat):Int)=(L:Int)+1:=by omega
  have HE:=Lib.hid e3;have HL:=Lib.hid hL;clear e3 hL
  go_wp2_with fail
  go_loop [9] (fun i=>i=.int .i64 (L:Int)) (fun _=>0)
  case atStart=>rfl
  case round=>
   subst hrel;by_cases hlt:L<s.size
   ·have hlt':(L:Int)<s.size:=by omega
    have hA:=zJR Ha.out hlt;have hLE:L<E.size:=by omega
    have hB:128<=(E[L]'hLE).toNat:=HE.out L _ (by rw[Array.getElem?_toList];exact Array.getElem?_eq_getElem (by simpa using hLE));have Hix:Hid (Lib.indexByte (s.extract (L+1) s.size).data.toList (((E[L]'hLE).toNat:Int)).toNat.toUInt8<0):=zH8 Ha.out hB _;have hne:¬ ((s[L]'hlt).toNat:Int)=((E[L]'hLE).toNat:Int):=by omega
    clear hL'
    go_wp2_with fail
    refine wp_scope_straight ?_
    go_wp2_with fail
    refine zR No [(0,false),(1,false),(2,false),(3,false),(4,false),(5,false),(6,false)] (by kernel_rfl) (by kernel_rfl) (fun w0 hf0=>?_)
    repeat (apply zT;exact rfl;exact rfl;exact rfl;intro K hK;go_big_quiet_op;go_big_quiet_on)
    refine zb ?_;have Hf0:=Lib.hid hf0;clear hf0
    go_wp2_with fail
    refine zR No [(0,false),(1,false),(2,false),(3,false),(4,false),(5,false),(6,false),(7,true),(8,false)] (by kernel_rfl) (by kernel_rfl) (fun w2 hf2=>?_)
    repeat (apply zT;exact rfl;exact rfl;exact rfl;intro K hK;go_big_quiet_op;go_big_quiet_on)
    apply zi;exact rfl
    go_wp2_with fail
    refine(Tryz.strings_IndexByte _ _ _).mono ?_;rintro e w3 ⟨rfl,rfl⟩;have hq:=Hix.out;generalize Lib.indexByte (s.extract (L+1) s.size).data.toList (((E[L]'hLE).toNat:Int)).toNat.toUInt8=q at *
    go_wp2_with fail
    refine OnlyN.mk ⟨Fr.refl _ _,?_⟩
    repeat (apply zT;exact rfl;exact rfl;exact rfl;intro K hK;go_big_quiet_op;go_big_quiet_on)
    refine zb ?_;have Hf2:=Lib.hid (Hf0.out.step hf2 (fun _ _ h=>h));clear hf2
    go_wp2_with fail
    simp +zetaDelta only[Exit.noGoto_ret,Exit.inBlock,Exit.then];go_ret;exact⟨rfl,Hf2.out⟩
   ·go_wp2_with fail
    try simp +zetaDelta only[Exit.noGoto_ret]
    go_ret;exact⟨rfl,Fr.refl _ _⟩
theorem zCO (s chars:ByteArray)(w:World)(h2:2<=chars.size)(hcs:chars.size<=1000)(h8:s.size<=8)(hac:Ascii chars):
  Calls Tryz.prog 314 #[.string s,.string chars] w fun e w'=>e=.returned (.int .i64 (Lib.indexAny s.data.toList chars.data.toList))/\Fr No w w':=by
 have hemp:chars.toList.isEmpty=false:=by
  rw[ByteArray.toList_eq];cases h:chars.data.toList with
  | nil=>have:=Lib.size_eq chars;rw[h,List.length_nil]at this;omega
  | cons _ _=>rfl
 have hn1:¬ ((chars.size:Int)=1):=by omega
 have h8z:decide ((8:Int)<(s.size:Int))=false:=decide_eq_false (by omega);have hsm:s.size<=9223372036854775807:=by omega
 have Hac:=Lib.hid hac;clear hac
 go_enter Tryz.func314,Tryz.ntmps314
 go_wp2_with fail
 refine(Tryz.strings_shouldUseASCIISet _ _).mono ?_;rintro e w1 ⟨rfl,rfl⟩;rw[h8z];clear h8z
 go_wp2_with fail
 go_loopg [9,10] s.size (fun g _ _ wx=>∃ i:Nat,i+g=s.size/\wx.heap[w1.heap.size]?=some (.stringIter s i)/\Fr No w1 wx/\Hid (Lib.NoAny s.data.toList chars.data.toList i))
 case atStart=>exact⟨0,by omega,World.iter_heap _ _ _,(Fr.refl _ _).alloc _,Lib.NoAny.zero _ _⟩
 case round=>
  obtain⟨i,hig,hbi,hfr,HN⟩:=hrel;obtain⟨W,rfl⟩:∃ W,W=wr:=⟨_,rfl⟩
  cases gk with
  | zero=>
   obtain rfl:i=s.size:=by omega
   have hnx:=fun ty=>Lib.run_next_end_at (P:=Tryz.prog) W w1.heap.size s s.size ty hbi (by omega)
   have Hfr:=Lib.hid hfr;clear hbi hfr
   go_wp2_with fail
   go_ret;exact⟨by rw[Lib.indexAny_none (by rw[<-Lib.size_eq];exact HN.out)];rfl,Hfr.out⟩
  | succ g=>
   have hi:i<s.size:=by omega
   have hnx:=fun ty=>Lib.run_next_any_at (P:=Tryz.prog) W w1.heap.size s i ty hbi hi
   obtain⟨x,hx⟩:∃ x:UInt8,s[i]'hi=x:=⟨_,rfl⟩
   have hxl:s.data.toList[i]?=some x:=by
    rw[<-hx,Array.getElem?_toList];exact Array.getElem?_eq_getElem (by simpa using hi)
   have hw1:1<=(Utf8.decode s i).2:=Lib.width_pos s i;have hle:(Utf8.decode s i).1<=1114111:=Lib.rune_le s i;have hasc:x.toNat<128->Utf8.decode s i=(x.toNat,1):=fun h=>by rw[decode_ascii s i hi (by rw[hx];exact h),hx]
   have hhi:128<=x.toNat->_:=fun h=>zF1 s i x hxl h
   have hit:=Lib.iterAt_heap W w1.heap.size s i (i+(Utf8.decode s i).2) hbi;have hfi:Fr No w1 (W.iterAt w1.heap.size s (i+(Utf8.decode s i).2)):=Fr.of_below_size (Lib.below_iterAt (hfr.below (Nat.le_refl _) (fun _ _=>id)) (Nat.le_refl _) s _);have Hasc:=Lib.hid hasc;have Hhi:=Lib.hid hhi;have Hx:=Lib.hid hxl;have HN2:Hid (128<=x.toNat->Lib.NoAny s.data.toList chars.data.toList (i+(Utf8.decode s i).2)):=by
    intro h j b hj hb;by_cases hji:j<i
    ·exact HN.out j b hji hb
    ·have h3:=(zF1 s i x hxl h).2.2 j b (by omega) hj hb;rw[Bool.eq_false_iff];intro hc;rw[List.contains_iff_mem]at hc;obtain⟨m,hm⟩:=List.getElem?_of_mem hc;have:=Hac.out m b hm;omega
   clear hasc hhi hxl hx hbi hfr;generalize Utf8.decode s i=D at *;obtain⟨rn,wd⟩:=D;simp only at hnx hw1 hle hit hfi Hasc Hhi HN2;generalize W.iterAt w1.heap.size s (i+wd)=W2 at *;have Hit:=Lib.hid hit;have Hfi:=Lib.hid hfi;clear hit hfi;by_cases h128:x.toNat<128
   ·have hD:=Hasc.out h128;injection hD with hD1 hD2
    subst hD1;subst hD2;have hcon:=Lib.contains_iff_indexByte chars.data.toList x;have hback:((x.toNat:Int)).toNat.toUInt8=x:=by simp
    have Hcon:=Lib.hid hcon;clear hcon
    go_wp2_with fail
    refine(Tryz.strings_IndexRune_ascii _ _ _ (by omega) (by omega)).mono ?_;rintro e w3 ⟨rfl,rfl⟩;rw[hback];by_cases hin:0<=Lib.indexByte chars.data.toList x
    ·have hc:chars.data.toList.contains x=true:=by rw[Hcon.out];exact decide_eq_true hin
     have Hc:=Lib.hid hc;clear hc;generalize Lib.indexByte chars.data.toList x=q at *
     go_wp2_with fail
     go_ret;exact⟨by rw[Lib.indexAny_hit HN.out Hx.out Hc.out];rfl,Hfi.out⟩
    ·have hc:chars.data.toList.contains x=false:=by rw[Hcon.out];exact decide_eq_false hin
     have Hc:=Lib.hid hc;clear hc;generalize Lib.indexByte chars.data.toList x=q at *
     go_wp2_with fail
     go_roundg g
     case measure=>omega
     case rel=>exact⟨i+1,by omega,Hit.out,Hfi.out,HN.out.succ Hx.out Hc.out⟩
   ·have hhx:128<=x.toNat:=by omega
    obtain⟨k1,k2,-⟩:=Hhi.out hhx
    go_wp2_with fail
    refine(zEo chars rn _ hcs Hac.out k1 hle).mono ?_;rintro e w3 ⟨rfl,hf3⟩;have Hit3:=Lib.hid (hf3.heap Hit.out id);have Hf3:=Lib.hid (Hfi.out.step hf3 (fun _ _ h=>h));clear hf3
    go_wp2_with fail
    go_roundg (s.size-(i+wd))
    case measure=>omega
    case rel=>exact⟨i+wd,by omega,Hit3.out,Hf3.out,HN2.out hhx⟩
theorem zGE (s ends:ByteArray)(w:World)(hs:s.size<=1000000)(hes:ends.size<=1000)(he:Ascii ends):
  Calls Tryz.prog 314 #[.string s,.string ends] w fun e w'=>e=.returned (.int .i64 (Lib.indexAny s.data.toList ends.data.toList))/\Fr No w w':=by
 by_cases h0:ends.size=0
 ·exact(Tryz.strings_IndexAny_none s ends w h0).mono fun e w' ⟨h1,h2⟩=>⟨h1,h2▸Fr.refl _ _⟩
 by_cases h1:ends.size=1
 ·exact(Tryz.strings_IndexAny_one s ends w h1 he).mono fun e w' ⟨h1,h2⟩=>⟨h1,h2▸Fr.refl _ _⟩
 by_cases h8:s.size<=8
 ·exact zCO s ends w (by omega) hes h8 he
 ·exact(Tryz.strings_IndexAny_long zJV s ends w (by omega) (by omega) (by omega) (by omega) he).mono fun e w' ⟨h1,h2⟩=>⟨h1,h2▸((Fr.refl _ _).alloc _).alloc _⟩
end Go.Proofs.YtmajgldaplkpiaaGreatDoor
