import Derived.Test.YtinfjnndbfahhaaGreatDoorQ19
import Derived.Lib.Join
import Derived.Test.YtinfjnndbfahhaaGreatDoorStrs3
import Derived.Lib.AtoiAllCases
import Derived.Lib.AppendIntMem
import Derived.Lib.TrimU
import Derived.Lib.OthersKept
import Derived.Laws.RangeString
import Derived.Laws.Runes
import Derived.Deep.LoopGhost
import Derived.WalkMore
namespace Go.Proofs.YtinfjnndbfahhaaGreatDoor
open Go Go.RowKit Go.Maps
set_option linter.unusedVariables false
set_option maxRecDepth 100000
set_option maxHeartbeats 2000000
mutual
def Ct.count : Ct->Nat
 | .mk _ _ _ _ _ _ n=>Ct.counts n+1
def Ct.counts : List Ct->Nat
 | []=>0
 | c::t=>c.count+Ct.counts t
end
theorem zAO : ∀ (l m:List Ct),Ct.counts (l++m)=Ct.counts l+Ct.counts m
 | [],m=>by simp[Ct.counts]
 | c::t,m=>by rw[List.cons_append,Ct.counts,Ct.counts,zAO t m];omega
mutual
theorem zDI : ∀ c:Ct,c.depth<=c.count
 | .mk k i l s t e n=>by
  have h:=zBB n;rw[Ct.depth,Ct.count];split<;>omega
theorem zBB : ∀ l:List Ct,Ct.depths l<=Ct.counts l
 | []=>by simp[Ct.depths,Ct.counts]
 | c::t=>by
  have f:=zDI c;have g:=zBB t;rw[Ct.depths,Ct.counts];omega
end
theorem zFE : ∀ c:Ct,0<c.count
 | .mk k i l s t e n=>by rw[Ct.count];omega
theorem zAP : ∀ l:List Ct,l.length<=Ct.counts l
 | []=>by simp
 | c::t=>by
  have f:=zFE c;have g:=zAP t;rw[List.length_cons,Ct.counts];omega
theorem zAw {c:Ct}:∀ {l:List Ct},c∈l->c.count<=Ct.counts l
 | [],h=>by cases h
 | d::t,h=>by
  rw[Ct.counts];rcases List.mem_cons.1 h with rfl | h
  ·omega
  ·have:=zAw h;omega
theorem zE2 {c:Ct}:∀ {l:List Ct},c∈l->c.depth<=Ct.depths l
 | [],h=>by cases h
 | d::t,h=>by
  rw[Ct.depths];rcases List.mem_cons.1 h with rfl | h
  ·omega
  ·have:=zE2 h;omega
theorem zDH : ∀ (l:List Ct) (c:Ct),Ct.depths (l++[c])=max (Ct.depths l) c.depth
 | [],c=>by simp[Ct.depths]
 | d::t,c=>by rw[List.cons_append,Ct.depths,Ct.depths,zDH t c];omega
theorem zBX (ends r:List UInt8):(past ends r).length<=r.length:=by
 have h:=congrArg List.length (zAM ends r);rw[List.length_append]at h;omega
theorem zZ {b:UInt8}{r t:List UInt8}(h:zU b r=some t):r.length=t.length+1:=by rw[zg h];rfl
theorem zAS {r:List UInt8}{p:Int×List UInt8}(h:pNum r=some p):p.2.length<=r.length:=by
 have:=congrArg List.length (zAu (v:=p.1) (r':=p.2) h);rw[List.length_append]at this;omega
theorem zEE : ∀ n:Nat,(∀ r c r',pC n r=some (c,r')->c.count+r'.length<=r.length+1)/\(∀ v r l r',pL n v r=some (l,r')->Ct.counts l+r'.length<=Ct.counts v+r.length)
 | 0=>⟨fun r c r' h=>by simp[pC]at h,fun v r l r' h=>by simp[pL]at h⟩
 | n+1=>by
  obtain⟨J,I⟩:=zEE n;have y:∀ q (o:List Ct×List UInt8),pL n [] q=some o->Ct.counts o.1+o.2.length<=q.length:=fun q o h=>by
   have:=I [] q o.1 o.2 h
   simpa [Ct.counts]using this
  refine⟨fun r c r' h=>?_,fun v r l r' h=>?_⟩
  ·have hr:=zBX [58,44,41] r;rw[pC]at h;by_cases X:upto [58,44,41] r=[]
   ·rw[if_pos X]at h;injection h with h
    injection h with h1 h2
    subst h1;subst h2;simp[Ct.zero,Ct.count,Ct.counts];omega
   rw[if_neg X]at h;obtain⟨F,z,h⟩:=Option.bind_eq_some_iff.1 h;have Y:=zZ z;have L:=zBX [58,40,44,41] F;simp only at h;generalize upto [58,40,44,41] F=di at h;generalize past [58,40,44,41] F=r3 at h L;split at h
   ·obtain⟨N,u,h⟩:=Option.bind_eq_some_iff.1 h;have Z:=zZ u;have hl:=zBX [44,41] N;injection h with h
    injection h with h1 h2
    subst h1;subst h2;simp[Ct.count,Ct.counts];omega
   split at h
   ·obtain⟨N,u,h⟩:=Option.bind_eq_some_iff.1 h;obtain⟨p5,A,h⟩:=Option.bind_eq_some_iff.1 h;obtain⟨r6,C,h⟩:=Option.bind_eq_some_iff.1 h;obtain⟨p7,D,h⟩:=Option.bind_eq_some_iff.1 h;obtain⟨r8,O,h⟩:=Option.bind_eq_some_iff.1 h;obtain⟨p9,R,h⟩:=Option.bind_eq_some_iff.1 h;obtain⟨q,f,h⟩:=Option.bind_eq_some_iff.1 h;obtain⟨o,g,h⟩:=Option.bind_eq_some_iff.1 h;injection h with h
    injection h with h1 h2
    subst h1;subst h2;have e5:=zAS A;have e7:=zAS D;have e9:=zAS R;have Z:=zZ u;have e6:=zZ C;have e8:=zZ O;have U:=zZ f;have V:=y q o g;rw[Ct.count];omega
   split at h
   ·obtain⟨q,f,h⟩:=Option.bind_eq_some_iff.1 h;obtain⟨o,g,h⟩:=Option.bind_eq_some_iff.1 h;injection h with h
    injection h with h1 h2
    subst h1;subst h2;have U:=zZ f;have V:=y q o g;rw[Ct.count];omega
   split at h
   ·obtain⟨N,u,h⟩:=Option.bind_eq_some_iff.1 h;obtain⟨p5,A,h⟩:=Option.bind_eq_some_iff.1 h;obtain⟨r6,C,h⟩:=Option.bind_eq_some_iff.1 h;obtain⟨p7,D,h⟩:=Option.bind_eq_some_iff.1 h;obtain⟨q,f,h⟩:=Option.bind_eq_some_iff.1 h;obtain⟨o,g,h⟩:=Option.bind_eq_some_iff.1 h;injection h with h
    injection h with h1 h2
    subst h1;subst h2;have e5:=zAS A;have e7:=zAS D;have Z:=zZ u;have e6:=zZ C;have U:=zZ f;have V:=y q o g;rw[Ct.count];omega
   split at h
   ·obtain⟨q,f,h⟩:=Option.bind_eq_some_iff.1 h;obtain⟨o,g,h⟩:=Option.bind_eq_some_iff.1 h;injection h with h
    injection h with h1 h2
    subst h1;subst h2;have U:=zZ f;have V:=y q o g;rw[Ct.count];omega
   ·cases h
  ·rw[pL]at h;obtain⟨p,hp,h⟩:=Option.bind_eq_some_iff.1 h;have e1:=J r p.1 p.2 hp;cases hs:zU 41 p.2 with
   | some F=>
    rw[hs]at h;simp only at h;injection h with h
    injection h with h1 h2
    subst h1;subst h2;have Y:=zZ hs;rw[zAO];simp only[Ct.counts];omega
   | none=>
    rw[hs]at h;simp only at h;obtain⟨F,z,h⟩:=Option.bind_eq_some_iff.1 h;have Y:=zZ z;have:=I _ F l r' h;rw[zAO]at this;simp only[Ct.counts]at this;omega
mutual
def Ct.walk : Ct->List Ct
 | .mk k i l s t e n=>.mk k i l s t e n::Ct.walks n
def Ct.walks : List Ct->List Ct
 | []=>[]
 | c::t=>c.walk++Ct.walks t
end
mutual
theorem zCY : ∀ c:Ct,c.walk.length=c.count
 | .mk k i l s t e n=>by rw[Ct.walk,Ct.count,List.length_cons,zBq n]
theorem zBq : ∀ l:List Ct,(Ct.walks l).length=Ct.counts l
 | []=>rfl
 | c::t=>by rw[Ct.walks,Ct.counts,List.length_append,zCY c,zBq t]
end
theorem zAk : ∀ (l m:List Ct),Ct.walks (l++m)=Ct.walks l++Ct.walks m
 | [],m=>rfl
 | c::t,m=>by rw[List.cons_append,Ct.walks,Ct.walks,zAk t m,List.append_assoc]
mutual
theorem zC9 : ∀ c:Ct,c.good=c.walk.all alike
 | .mk k i l s t e n=>by rw[Ct.good,Ct.walk,List.all_cons,zDo n]
theorem zDo : ∀ l:List Ct,Ct.goods l=(Ct.walks l).all alike
 | []=>rfl
 | c::t=>by rw[Ct.goods,Ct.walks,List.all_append,zC9 c,zDo t]
end
def SmallC (m:Nat)(d:Ct):Prop:=d.id.size<=m/\d.label.size<=m
theorem SmallC.mono {m f:Nat}{d:Ct}(h:SmallC m d)(g:m<=f):SmallC f d:=⟨Nat.le_trans h.1 g,Nat.le_trans h.2 g⟩
theorem zF3 (ends r:List UInt8):(upto ends r).length<=r.length:=by
 have h:=congrArg List.length (zAM ends r);rw[List.length_append]at h;omega
theorem zH5 : ∀ n:Nat,(∀ r c r',pC n r=some (c,r')->∀ d∈c.walk,SmallC r.length d)/\(∀ y r l r',pL n y r=some (l,r')->∀ d∈Ct.walks l,d∈Ct.walks y\/SmallC r.length d)
 | 0=>⟨fun r c r' h=>by simp[pC]at h,fun y r l r' h=>by simp[pL]at h⟩
 | n+1=>by
  obtain⟨R,N⟩:=zH5 n;have U:=(zEE n).1;have z:∀ u (q:List Ct×List UInt8),pL n [] u=some q->∀ d∈Ct.walks q.1,SmallC u.length d:=fun u q h d f=>by
   rcases N [] u q.1 q.2 h d f with h | h
   ·simp[Ct.walks]at h
   ·exact h
  refine⟨fun r c r' h=>?_,fun y r l r' h=>?_⟩
  ·have hr:=zBX [58,44,41] r;rw[pC]at h;by_cases h0:upto [58,44,41] r=[]
   ·rw[if_pos h0]at h;injection h with h
    injection h with h1 h2
    subst h1;subst h2;intro d f;simp[Ct.zero,Ct.walk,Ct.walks]at f;subst f;exact⟨Nat.zero_le _,Nat.zero_le _⟩
   rw[if_neg h0]at h;obtain⟨C,D,h⟩:=Option.bind_eq_some_iff.1 h;have e2:=zZ D;have V:=zBX [58,40,44,41] C;have X:=zF3 [58,40,44,41] C;simp only at h;generalize upto [58,40,44,41] C=di at h X;generalize past [58,40,44,41] C=r3 at h V;split at h
   ·obtain⟨O,v,h⟩:=Option.bind_eq_some_iff.1 h;have Y:=zZ v;have hl:=zBX [44,41] O;injection h with h
    injection h with h1 h2
    subst h1;subst h2;have a3:=zF3 [44,41] O;intro d f;simp only[Ct.walk,Ct.walks,List.mem_singleton]at f;subst f;exact⟨by show di.toArray.size<=_;simp;omega,by show (upto [44,41] O).toArray.size<=_;simp;omega⟩
   split at h
   ·obtain⟨O,v,h⟩:=Option.bind_eq_some_iff.1 h;obtain⟨p5,F,h⟩:=Option.bind_eq_some_iff.1 h;obtain⟨r6,I,h⟩:=Option.bind_eq_some_iff.1 h;obtain⟨p7,J,h⟩:=Option.bind_eq_some_iff.1 h;obtain⟨r8,Z,h⟩:=Option.bind_eq_some_iff.1 h;obtain⟨p9,a2,h⟩:=Option.bind_eq_some_iff.1 h;obtain⟨u,g,h⟩:=Option.bind_eq_some_iff.1 h;obtain⟨q,o,h⟩:=Option.bind_eq_some_iff.1 h;injection h with h
    injection h with h1 h2
    subst h1;subst h2;have e5:=zAS F;have e7:=zAS J;have e9:=zAS a2;have Y:=zZ v;have e6:=zZ I;have e8:=zZ Z;have ea:=zZ g;have L:=z u q o;intro d f;rw[Ct.walk]at f;rcases List.mem_cons.1 f with rfl | f
    ·exact⟨by show di.toArray.size<=_;simp;omega,Nat.zero_le _⟩
    ·exact(L d f).mono (by omega)
   split at h
   ·obtain⟨u,g,h⟩:=Option.bind_eq_some_iff.1 h;obtain⟨q,o,h⟩:=Option.bind_eq_some_iff.1 h;injection h with h
    injection h with h1 h2
    subst h1;subst h2;have ea:=zZ g;have L:=z u q o;intro d f;rw[Ct.walk]at f;rcases List.mem_cons.1 f with rfl | f
    ·exact⟨by show di.toArray.size<=_;simp;omega,Nat.zero_le _⟩
    ·exact(L d f).mono (by omega)
   split at h
   ·obtain⟨O,v,h⟩:=Option.bind_eq_some_iff.1 h;obtain⟨p5,F,h⟩:=Option.bind_eq_some_iff.1 h;obtain⟨r6,I,h⟩:=Option.bind_eq_some_iff.1 h;obtain⟨p7,J,h⟩:=Option.bind_eq_some_iff.1 h;obtain⟨u,g,h⟩:=Option.bind_eq_some_iff.1 h;obtain⟨q,o,h⟩:=Option.bind_eq_some_iff.1 h;injection h with h
    injection h with h1 h2
    subst h1;subst h2;have e5:=zAS F;have e7:=zAS J;have Y:=zZ v;have e6:=zZ I;have ea:=zZ g;have L:=z u q o;intro d f;rw[Ct.walk]at f;rcases List.mem_cons.1 f with rfl | f
    ·exact⟨by show di.toArray.size<=_;simp;omega,Nat.zero_le _⟩
    ·exact(L d f).mono (by omega)
   split at h
   ·obtain⟨u,g,h⟩:=Option.bind_eq_some_iff.1 h;obtain⟨q,o,h⟩:=Option.bind_eq_some_iff.1 h;injection h with h
    injection h with h1 h2
    subst h1;subst h2;have ea:=zZ g;have L:=z u q o;intro d f;rw[Ct.walk]at f;rcases List.mem_cons.1 f with rfl | f
    ·exact⟨by show di.toArray.size<=_;simp;omega,Nat.zero_le _⟩
    ·exact(L d f).mono (by omega)
   ·cases h
  ·rw[pL]at h;obtain⟨p,hp,h⟩:=Option.bind_eq_some_iff.1 h;have e1:=R r p.1 p.2 hp;cases hs:zU 41 p.2 with
   | some C=>
    rw[hs]at h;simp only at h;injection h with h
    injection h with h1 h2
    subst h1;subst h2;have e2:=zZ hs;intro d f;rw[zAk]at f;rcases List.mem_append.1 f with f | f
    ·exact .inl f
    ·exact .inr (e1 d (by simpa [Ct.walks]using f))
   | none=>
    rw[hs]at h;simp only at h;obtain⟨C,D,h⟩:=Option.bind_eq_some_iff.1 h;have e2:=zZ D;have e3:=U r p.1 p.2 hp;have Y:=zFE p.1;intro d f;rcases N _ C l r' h d f with A | A
    ·rw[zAk]at A;rcases List.mem_append.1 A with A | A
     ·exact .inl A
     ·exact .inr (e1 d (by simpa [Ct.walks]using A))
    ·exact .inr (A.mono (by omega))
mutual
theorem zC7 : ∀ {c d:Ct},d∈c.walk->d.inner.length<=c.count
 | .mk k i l s t e n,d,h=>by
  rw[Ct.walk]at h;rw[Ct.count];rcases List.mem_cons.1 h with rfl | h
  ·have:=zAP n;show n.length<=_
   omega
  ·have:=zDn h;omega
theorem zDn : ∀ {n:List Ct} {d:Ct},d∈Ct.walks n->d.inner.length<=Ct.counts n
 | [],d,h=>by simp[Ct.walks]at h
 | c::t,d,h=>by
  rw[Ct.walks]at h;rw[Ct.counts];rcases List.mem_append.1 h with h | h
  ·have:=zC7 h;omega
  ·have:=zDn h;omega
end
theorem zAh (a b:ByteArray):bl (a++b)=bl a++bl b:=by simp[bl]
theorem zCV {a b:ByteArray}(h:bl a=bl b):a=b:=by
 rw[<-zLx a,<-zLx b,h]
def Ct.txt (c:Ct):ByteArray:=⟨c.text.toArray⟩
theorem zCA (c:Ct):bl c.txt=c.text:=zDZ _
theorem zC5 : ∀ l:List (List UInt8),Lib.join l [44]=commas l
 | []=>rfl
 | [x]=>by simp[Lib.join,commas,List.intercalate]
 | x::y::t=>by
  have h:=zC5 (y::t);unfold Lib.join at *;rw[commas,<-h];simp[List.intercalate,List.intersperse]
theorem zCP {x:List UInt8}:∀ {l:List (List UInt8)},x∈l->x.length<=(commas l).length
 | [],h=>by cases h
 | [y],h=>by simp at h;subst h;simp[commas]
 | y::z::t,h=>by
  rw[commas];rcases List.mem_cons.1 h with rfl | h
  ·simp
  ·have:=zCP h;simp;omega
def inTxt (n:List Ct):ByteArray:=⟨(commas (n.map Ct.text)).toArray⟩
theorem zL9 (n:List Ct):bl (inTxt n)=commas (n.map Ct.text):=zDZ _
theorem zIU (n:List Ct):(⟨(Lib.join ((n.map Ct.txt).map (·.data.toList)) [44]).toArray⟩:ByteArray)=inTxt n:=by
 rw[zC5,List.map_map];have:(fun c=>((fun x:ByteArray=>x.data.toList)∘Ct.txt) c)=Ct.text:=funext fun c=>zCA c
 show (⟨(commas (n.map (fun c=>((fun x:ByteArray=>x.data.toList)∘Ct.txt) c))).toArray⟩:ByteArray)=_
 rw[this];rfl
theorem zL5 (n:List Ct):(Lib.join ((n.map Ct.txt).map (·.data.toList)) [44]).length=(commas (n.map Ct.text)).length:=by
 have:=congrArg bl (zIU n);rw[zDZ,zL9]at this;rw[this]
theorem zA0 {i:ByteArray}(h:isId i=true):i.size<=16:=by
 unfold isId at h;simp only[Bool.and_eq_true,decide_eq_true_eq]at h;exact h.1.2
theorem zCN {c:Ct}(h:c.good=true):alike c=true/\c.inner.all Ct.good=true:=by
 rw[zIX,Bool.and_eq_true,zE9]at h;exact h
theorem zDS {k s t e:Int}{i l:ByteArray}{n:List Ct}(h:alike (.mk k i l s t e n)=true):i.size<=16/\l.size<=16:=by
 have f:∀ x:ByteArray,(bl x).isEmpty=true->x.size<=16:=fun x z=>by rw[zBC z];decide
 rw[alike]at h;by_cases g:k=0
 ·rw[if_pos g]at h;simp only[Bool.and_eq_true]at h;exact⟨f _ h.1.1.1,f _ h.1.1.2⟩
 rw[if_neg g]at h;by_cases o:k=1
 ·rw[if_pos o]at h;simp only[Bool.and_eq_true,Bool.or_eq_true]at h;exact⟨zA0 h.1.1.1,h.1.1.2.elim (f _) zA0⟩
 rw[if_neg o]at h;by_cases q:k=2
 ·rw[if_pos q]at h;simp only[Bool.and_eq_true]at h;exact⟨zA0 h.1.1.1.1.1,f _ h.1.1.1.1.2⟩
 rw[if_neg q]at h;by_cases u:k=3
 ·rw[if_pos u]at h;simp only[Bool.and_eq_true]at h;exact⟨zA0 h.1.1.1,f _ h.1.1.2⟩
 rw[if_neg u]at h;by_cases v:k=4
 ·rw[if_pos v]at h;simp only[Bool.and_eq_true]at h;exact⟨zA0 h.1.1.1.1,f _ h.1.1.1.2⟩
 rw[if_neg v]at h;by_cases y:k=5
 ·rw[if_pos y]at h;simp only[Bool.and_eq_true]at h;exact⟨zA0 h.1.1.1,f _ h.1.1.2⟩
 rw[if_neg y]at h;cases h
theorem zDx {k s t e:Int}{i l:ByteArray}{n:List Ct}(h:alike (.mk k i l s t e n)=true):((k=0\/k=1)/\n=[])\/(k=2/\1<=s/\s<=16/\1<=t/\t<=16/\1<=e/\e<=16)\/k=3\/(k=4/\1<=s/\s<=16/\1<=t/\t<=16)\/k=5:=by
 rw[alike]at h;by_cases f:k=0
 ·rw[if_pos f]at h;simp only[Bool.and_eq_true,List.isEmpty_iff]at h;exact .inl ⟨.inl f,h.2⟩
 rw[if_neg f]at h;by_cases g:k=1
 ·rw[if_pos g]at h;simp only[Bool.and_eq_true,List.isEmpty_iff]at h;exact .inl ⟨.inr g,h.2⟩
 rw[if_neg g]at h;by_cases o:k=2
 ·rw[if_pos o]at h;simp only[Bool.and_eq_true,zAH,decide_eq_true_eq]at h;exact .inr (.inl ⟨o,by omega⟩)
 rw[if_neg o]at h;by_cases q:k=3
 ·rw[if_pos q]at h;exact .inr (.inr (.inl q))
 rw[if_neg q]at h;by_cases u:k=4
 ·rw[if_pos u]at h;simp only[Bool.and_eq_true,zAH,decide_eq_true_eq]at h;exact .inr (.inr (.inr (.inl ⟨u,by omega⟩)))
 rw[if_neg u]at h;by_cases v:k=5
 ·rw[if_pos v]at h;exact .inr (.inr (.inr (.inr v)))
 rw[if_neg v]at h;cases h
theorem zL6 {c:Ct}(h:c.good=true):(commas (c.inner.map Ct.text)).length<=c.text.length:=by
 obtain⟨k,i,l,s,t,e,n⟩:=c;have f:=(zCN h).1;show (commas (n.map Ct.text)).length<=_
 rcases zDx f with⟨_,rfl⟩ | ⟨rfl,_⟩ | rfl | ⟨rfl,_⟩ | rfl
 ·simp[commas]
 ·rw[zG2];simp;omega
 ·rw[zJC];simp;omega
 ·rw[zJB];simp;omega
 ·rw[zHj];simp;omega
theorem zJl (k:Nat):Lib.itoa (k:Int)=Lib.decDigits k:=by unfold Lib.itoa;rw[if_neg (by omega)];simp
def numBA (k:Nat):ByteArray:=⟨(Lib.decDigits k).toArray⟩
theorem zBv {k:Nat}(f:1<=k)(g:k<=16):(numBA k).size<=2:=by
 show (Lib.decDigits k).toArray.size<=2
 rw[zFC k f g];split<;>simp
theorem zKS (k:Nat):bl (numBA k)=Lib.itoa (k:Int):=by rw[zJl];exact zDZ _
def boxed (n:List Ct):ByteArray:=⟨#[40]⟩++inTxt n++⟨#[41]⟩
theorem zCg (n:List Ct):bl (boxed n)=40::(commas (n.map Ct.text)++[41]):=by unfold boxed;rw[zAh,zAh,zL9];rfl
section
variable (i l:ByteArray)(s t e:Int)(n:List Ct)(a b c:Nat)
theorem txt0 : (Ct.mk 0 i l s t e n).txt=⟨#[]⟩:=zCV (by rw[zCA,zKh])
theorem txt1 : (Ct.mk 1 i l s t e n).txt=(⟨#[102,115,58]⟩:ByteArray)++i++⟨#[58]⟩++l:=zCV (by rw[zCA,zHk];simp only[zAh];simp[bl])
theorem txt2 : (Ct.mk 2 i l a b c n).txt=(⟨#[114,97,105,100,58]⟩:ByteArray)++i++⟨#[58]⟩++numBA a++⟨#[47]⟩++numBA b++⟨#[47]⟩++numBA c++boxed n:=zCV (by rw[zCA,zG2];simp only[zAh,zKS,zCg];simp[bl])
theorem txt3 : (Ct.mk 3 i l s t e n).txt=(⟨#[99,114,121,112,116,58]⟩:ByteArray)++i++boxed n:=zCV (by rw[zCA,zJC];simp only[zAh,zCg];simp[bl])
theorem txt4 : (Ct.mk 4 i l a b e n).txt=(⟨#[112,118,58]⟩:ByteArray)++i++⟨#[58]⟩++numBA a++⟨#[47]⟩++numBA b++boxed n:=zCV (by rw[zCA,zJB];simp only[zAh,zKS,zCg];simp[bl])
theorem txt5 : (Ct.mk 5 i l s t e n).txt=(⟨#[116,97,98,108,101,58]⟩:ByteArray)++i++boxed n:=zCV (by rw[zCA,zHj];simp only[zAh,zCg];simp[bl])
end
def Ascii (s:ByteArray):Prop:=∀ (j:Nat) b,s.data.toList[j]?=some b->b.toNat<128
theorem zKX (w:World):(zeroValue 366).run Tryz.prog w=.ok (.agg (Array.replicate 256 (.bool false))) w:=by kernel_rfl
theorem zIf (n o f g q:Nat)(h:128<=o):128<=(Lib.decodeN n o f g q).1/\((Lib.decodeN n o f g q).2=1\/((Lib.decodeN n o f g q).2=2/\1<n/\128<=f)\/((Lib.decodeN n o f g q).2=3/\2<n/\128<=f/\128<=g)\/((Lib.decodeN n o f g q).2=4/\3<n/\128<=f/\128<=g/\128<=q)):=by
 unfold Lib.decodeN;rw[if_neg (by omega)]
 repeat' split
 all_goals (refine⟨?_,?_⟩)
 all_goals first
  | exact .inl rfl
  | exact .inr (.inl ⟨rfl,by omega,by omega⟩)
  | exact .inr (.inr (.inl ⟨rfl,by omega,by omega,by omega⟩))
  | exact .inr (.inr (.inr ⟨rfl,by omega,by omega,by omega,by omega⟩))
  | (simp only;omega)
theorem zGX (s:ByteArray)(i:Nat)(x:UInt8)(h:s.data.toList[i]?=some x):s.get! i=x:=by
 have f:s.data[i]?=some x:=by rw[<-Array.getElem?_toList];exact h
 show s.data[i]! = x
 rw[getElem!_def,f]
theorem zGh (s:ByteArray)(f:Nat)(x:UInt8)(D:s.data.toList[f]?=some x)(q:128<=x.toNat):
  128<=(Utf8.decode s f).1/\f+(Utf8.decode s f).2<=s.size/\∀ j y,f<=j->j<f+(Utf8.decode s f).2->s.data.toList[j]?=some y->128<=y.toNat:=by
 have u:s.data.toList.length=s.size:=(Lib.size_eq s).symm;have L:f<s.size:=by rw[<-u];exact(List.getElem?_eq_some_iff.1 D).1
 have v:=zGX s f x D;rw[Lib.decode_at];have o:=zIf (s.size-f) (s.get! f).toNat (s.get! (f+1)).toNat (s.get! (f+2)).toNat (s.get! (f+3)).toNat (by rw[v];exact q);refine⟨o.1,?_,?_⟩
 ·rcases o.2 with h | ⟨h,_⟩ | ⟨h,_⟩ | ⟨h,_⟩<;>omega
 ·intro j y N A I;have g:=zGX s j y I;rcases o.2 with h | ⟨h,F,z⟩ | ⟨h,F,z,C⟩ | ⟨h,F,z,C,J⟩
  ·rw[h]at A;obtain rfl:j=f:=by omega
   rw[<-g,v];exact q
  ·rw[h]at A;rcases(by omega:j=f\/j=f+1)with rfl | rfl
   ·rw[<-g,v];exact q
   ·rw[<-g];exact z
  ·rw[h]at A;rcases(by omega:j=f\/j=f+1\/j=f+2)with rfl | rfl | rfl
   ·rw[<-g,v];exact q
   ·rw[<-g];exact z
   ·rw[<-g];exact C
  ·rw[h]at A;rcases(by omega:j=f\/j=f+1\/j=f+2\/j=f+3)with rfl | rfl | rfl | rfl
   ·rw[<-g,v];exact q
   ·rw[<-g];exact z
   ·rw[<-g];exact C
   ·rw[<-g];exact J
theorem zJu (r:Nat)(h:128<=r):2<=(Utf8.encode (r:Int)).size/\(Utf8.encode (r:Int)).size<=4/\∀ (j:Nat) y,(Utf8.encode (r:Int)).data.toList[j]?=some y->128<=y.toNat:=by
 have q:∀ l:List UInt8,(∀ y∈l,128<=y.toNat)->∀ (j:Nat) y,(⟨l.toArray⟩:ByteArray).data.toList[j]?=some y->128<=y.toNat:=fun l u j y f=>u y (by simpa using List.mem_of_getElem? f)
 have g:∀ c:Nat,128<=c->c<=1114111->∀ e:ByteArray,e=(if c<0x80 then ⟨#[UInt8.ofNat c]⟩else if c<0x800 then ⟨#[UInt8.ofNat (0xC0+c / 64),UInt8.ofNat (0x80+c % 64)]⟩
   else if c<0x10000 then ⟨#[UInt8.ofNat (0xE0+c / 4096),UInt8.ofNat (0x80+c / 64 % 64),UInt8.ofNat (0x80+c % 64)]⟩
   else ⟨#[UInt8.ofNat (0xF0+c / 262144),UInt8.ofNat (0x80+c / 4096 % 64),UInt8.ofNat (0x80+c / 64 % 64),UInt8.ofNat (0x80+c % 64)]⟩)->2<=e.size/\e.size<=4/\∀ (j:Nat) y,e.data.toList[j]?=some y->128<=y.toNat:=by
  rintro c v z e rfl;rw[if_neg (by omega)];split
  ·refine⟨by show 2<=2;decide,by show 2<=4;decide,q _ ?_⟩;intro y f;simp only[List.mem_cons,List.not_mem_nil,or_false]at f;rcases f with rfl | rfl<;>(simp only[UInt8.toNat_ofNat'];omega)
  split
  ·refine⟨by show 2<=3;decide,by show 3<=4;decide,q _ ?_⟩;intro y f;simp only[List.mem_cons,List.not_mem_nil,or_false]at f;rcases f with rfl | rfl | rfl<;>(simp only[UInt8.toNat_ofNat'];omega)
  ·refine⟨by show 2<=4;decide,by show 4<=4;decide,q _ ?_⟩;intro y f;simp only[List.mem_cons,List.not_mem_nil,or_false]at f;rcases f with rfl | rfl | rfl | rfl<;>(simp only[UInt8.toNat_ofNat'];omega)
 by_cases o:Utf8.valid (r:Int)=true
 ·refine g r h ?_ _ ?_
  ·unfold Utf8.valid at o;simp only[Bool.or_eq_true,Bool.and_eq_true,decide_eq_true_eq]at o;omega
  ·unfold Utf8.encode;rw[if_pos o];simp only[Int.toNat_natCast]
 ·refine g 0xFFFD (by decide) (by decide) _ ?_;unfold Utf8.encode;rw[if_neg o];rfl
theorem zKY (r:Int)(w:World)(h:0<=r):
  Calls Tryz.prog 318 #[.int .i32 r] w fun e w'=>RetB e/\w'=w:=by
 go_enter Tryz.func318,Tryz.ntmps318
 by_cases f:r<55296
 ·go_wp2;go_ret;exact⟨RetB.mk true,rfl⟩
 ·by_cases g:57343<r
  ·by_cases o:r<=1114111
   ·go_wp2;go_ret;exact⟨RetB.mk true,rfl⟩
   ·go_wp2;go_ret;exact⟨RetB.mk false,rfl⟩
  ·go_wp2;go_ret;exact⟨RetB.mk false,rfl⟩
theorem zKT {s:ByteArray}(h:Ascii s){i:Nat}(f:i<s.size):(s[i]'f).toNat<128:=by
 refine h i _ ?_;rw[Array.getElem?_toList];exact Array.getElem?_eq_getElem (by simpa using f)
theorem zIz {s:ByteArray}(h:Ascii s){b:UInt8}(u:128<=b.toNat)(k:Nat):Lib.indexByte (s.extract k s.size).data.toList ((b.toNat:Int)).toNat.toUInt8<0:=by
 have e:((b.toNat:Int)).toNat.toUInt8=b:=by simp
 rw[e];have f:=Lib.contains_iff_indexByte (s.extract k s.size).data.toList b;have o:(s.extract k s.size).data.toList.contains b=false:=by
  rw[Bool.eq_false_iff];intro g;rw[List.contains_iff_mem,Lib.extract_to_end]at g;obtain⟨m,q⟩:=List.getElem?_of_mem (List.mem_of_mem_drop g);have:=h m b q;omega
 rw[o]at f;have:=of_decide_eq_false f.symm;omega
theorem zFM (s:ByteArray)(r:Nat)(w:World)(hs:s.size<=1000)(O:Ascii s)(Y:128<=r)(h2:r<=1114111):
  Calls Tryz.prog 287 #[.string s,.int .i32 (r:Int)] w fun e w'=>e=.returned (.int .i64 (-1))/\Fr No w w':=by
 have hm:s.size<=9223372036854775807:=by omega
 have n1:¬ (r:Int)<128:=by omega
 have z:=zh O;clear O
 go_enter Tryz.func287,Tryz.ntmps287
 by_cases Z:r=65533
 ·subst Z
  go_wp2_with fail
  go_loopg [5] s.size (fun g _ wx=>∃ i:Nat,i+g=s.size/\wx=w.iter s i)
  case atStart=>exact⟨0,by omega,rfl⟩
  case round=>
   obtain⟨i,a2,rfl⟩:=hrel;cases gk with
   | zero=>
    obtain rfl:i=s.size:=by omega
    have A:=run_next_end (P:=Tryz.prog) w s s.size;go_wp2;go_ret;exact⟨rfl,Fr.refl _ _ |>.alloc _⟩
   | succ g=>
    have C:i<s.size:=by omega
    have h:=zKT z.out C;have A:=fun ty=>run_next_ascii (P:=Tryz.prog) w s i ty C h
    have D:¬ ((s[i]'C).toNat:Int)=65533:=by omega
    go_wp2_with fail
    go_roundg g
    case measure=>omega
    case rel=>exact⟨i+1,by omega,rfl⟩
 have n2:¬ (r:Int)=65533:=by omega
 have n3:(0:Int)<=r:=by omega
 have o:=zJu r Y
 go_wp2_with fail
 refine(zKY _ _ (by omega)).mono ?_;rintro e w1 ⟨⟨b,rfl⟩,rfl⟩;cases b with
 | false=>
  go_wp2_with fail
  go_ret;exact⟨rfl,Fr.refl _ _⟩
 | true=>
  go_wp2_with fail
  refine wp_scope_straight ?_
  go_upto_region 2 with(fail)
  obtain⟨L,R⟩:∃ L,(Utf8.encode (r:Int)).size=L+1:=⟨(Utf8.encode (r:Int)).size-1,by omega⟩
  generalize Utf8.encode (r:Int)=E at *;obtain⟨e1,e2,U⟩:=o;have F:((E.size:Nat):Int)=(L:Int)+1:=by omega
  have HE:=zh U;have HL:=zh R;clear U R
  go_wp2_with fail
  go_loop [9] (fun i=>i=.int .i64 (L:Int)) (fun _=>0)
  case atStart=>rfl
  case round=>
   subst hrel;by_cases u:L<s.size
   ·have V:(L:Int)<s.size:=by omega
    have hA:=zKT z.out u;have f:L<E.size:=by omega
    have hB:128<=(E[L]'f).toNat:=HE.out L _ (by rw[Array.getElem?_toList];exact Array.getElem?_eq_getElem (by simpa using f));have I:Hid (Lib.indexByte (s.extract (L+1) s.size).data.toList (((E[L]'f).toNat:Int)).toNat.toUInt8<0):=zIz z.out hB _;have D:¬ ((s[L]'u).toNat:Int)=((E[L]'f).toNat:Int):=by omega
    clear F
    go_wp2_with fail
    refine wp_scope_straight ?_
    go_wp2_with fail
    refine zQ No [(0,false),(1,false),(2,false),(3,false),(4,false),(5,false),(6,false)] (by kernel_rfl) (by kernel_rfl) (fun w0 v=>?_)
    repeat (apply zS rfl rfl rfl;intro K X;go_big_quiet_op;go_big_quiet_on)
    refine zY ?_;have J:=zh v;clear v
    go_wp2_with fail
    refine zQ No [(0,false),(1,false),(2,false),(3,false),(4,false),(5,false),(6,false),(7,true),(8,false)] (by kernel_rfl) (by kernel_rfl) (fun w2 y=>?_)
    repeat (apply zS rfl rfl rfl;intro K X;go_big_quiet_op;go_big_quiet_on)
    apply zk;exact rfl
    go_wp2_with fail
    refine(Tryz.strings_IndexByte _ _ _).mono ?_;rintro e w3 ⟨rfl,rfl⟩;have hq:=I.out;generalize Lib.indexByte (s.extract (L+1) s.size).data.toList (((E[L]'f).toNat:Int)).toNat.toUInt8=q at *
    go_wp2_with fail
    refine zq ?_
    repeat (apply zS rfl rfl rfl;intro K X;go_big_quiet_op;go_big_quiet_on)
    refine zY ?_;have N:=zh (J.out.step y zi);clear y
    go_wp2_with fail
    simp +zetaDelta only[Exit.noGoto_ret,Exit.inBlock,Exit.then];go_ret;exact⟨rfl,N.out⟩
   ·go_wp2_with fail
    try simp +zetaDelta only[Exit.noGoto_ret]
    go_ret;exact⟨rfl,Fr.refl _ _⟩
theorem zCX (s f:ByteArray)(w:World)(h2:2<=f.size)(b0:f.size<=1000)(h8:s.size<=8)(U:Ascii f):
  Calls Tryz.prog 261 #[.string s,.string f] w fun e w'=>e=.returned (.int .i64 (Lib.indexAny s.data.toList f.data.toList))/\Fr No w w':=by
 have b5:f.toList.isEmpty=false:=by
  rw[ByteArray.toList_eq];cases h:f.data.toList with
  | nil=>have:=Lib.size_eq f;rw[h,List.length_nil]at this;omega
  | cons _ _=>rfl
 have b6:¬ ((f.size:Int)=1):=by omega
 have V:decide ((8:Int)<(s.size:Int))=false:=decide_eq_false (by omega);have b7:s.size<=9223372036854775807:=by omega
 have X:=zh U;clear U
 go_enter Tryz.func261,Tryz.ntmps261
 go_wp2_with fail
 refine(Tryz.strings_shouldUseASCIISet _ _).mono ?_;rintro e y ⟨rfl,rfl⟩;rw[V];clear V
 go_wp2_with fail
 go_loopg [9,10] s.size (fun g _ _ wx=>∃ i:Nat,i+g=s.size/\wx.heap[y.heap.size]?=some (.stringIter s i)/\Fr No y wx/\Hid (Lib.NoAny s.data.toList f.data.toList i))
 case atStart=>exact⟨0,by omega,World.iter_heap _ _ _,(Fr.refl _ _).alloc _,Lib.NoAny.zero _ _⟩
 case round=>
  obtain⟨i,b8,o,u,HN⟩:=hrel;obtain⟨W,rfl⟩:∃ W,W=wr:=⟨_,rfl⟩
  cases gk with
  | zero=>
   obtain rfl:i=s.size:=by omega
   have Y:=fun ty=>Lib.run_next_end_at (P:=Tryz.prog) W y.heap.size s s.size ty o (by omega)
   have b1:=zh u;clear o u
   go_wp2_with fail
   go_ret;exact⟨by rw[Lib.indexAny_none (by rw[<-Lib.size_eq];exact HN.out)];rfl,b1.out⟩
  | succ g=>
   have hi:i<s.size:=by omega
   have Y:=fun ty=>Lib.run_next_any_at (P:=Tryz.prog) W y.heap.size s i ty o hi
   obtain⟨x,hx⟩:∃ x:UInt8,s[i]'hi=x:=⟨_,rfl⟩
   have v:s.data.toList[i]?=some x:=by
    rw[<-hx,Array.getElem?_toList];exact Array.getElem?_eq_getElem (by simpa using hi)
   have b2:1<=(Utf8.decode s i).2:=Lib.width_pos s i;have Z:(Utf8.decode s i).1<=1114111:=Lib.rune_le s i;have z:x.toNat<128->Utf8.decode s i=(x.toNat,1):=fun h=>by rw[decode_ascii s i hi (by rw[hx];exact h),hx]
   have a2:128<=x.toNat->_:=fun h=>zGh s i x v h
   have J:=Lib.iterAt_heap W y.heap.size s i (i+(Utf8.decode s i).2) o;have L:Fr No y (W.iterAt y.heap.size s (i+(Utf8.decode s i).2)):=Fr.of_below_size (Lib.below_iterAt (u.below (Nat.le_refl _) (fun _ _=>id)) (Nat.le_refl _) s _);have A:=zh z;have a3:=zh a2;have Hx:=zh v;have a4:Hid (128<=x.toNat->Lib.NoAny s.data.toList f.data.toList (i+(Utf8.decode s i).2)):=by
    intro h j b hj hb;by_cases b3:j<i
    ·exact HN.out j b b3 hb
    ·have h3:=(zGh s i x v h).2.2 j b (by omega) hj hb;rw[Bool.eq_false_iff];intro C;rw[List.contains_iff_mem]at C;obtain⟨m,hm⟩:=List.getElem?_of_mem C;have:=X.out m b hm;omega
   clear z a2 v hx o u;generalize Utf8.decode s i=D at *;obtain⟨rn,wd⟩:=D;simp only at Y b2 Z J L A a3 a4;generalize W.iterAt y.heap.size s (i+wd)=W2 at *;have a5:=zh J;have N:=zh L;clear J L;by_cases a6:x.toNat<128
   ·have hD:=A.out a6;injection hD with hD1 hD2
    subst hD1;subst hD2;have F:=Lib.contains_iff_indexByte f.data.toList x;have O:((x.toNat:Int)).toNat.toUInt8=x:=by simp
    have I:=zh F;clear F
    go_wp2_with fail
    refine(Tryz.strings_IndexRune_ascii _ _ _ (by omega) (by omega)).mono ?_;rintro e w3 ⟨rfl,rfl⟩;rw[O];by_cases a7:0<=Lib.indexByte f.data.toList x
    ·have C:f.data.toList.contains x=true:=by rw[I.out];exact decide_eq_true a7
     have Hc:=zh C;clear C;generalize Lib.indexByte f.data.toList x=q at *
     go_wp2_with fail
     go_ret;exact⟨by rw[Lib.indexAny_hit HN.out Hx.out Hc.out];rfl,N.out⟩
    ·have C:f.data.toList.contains x=false:=by rw[I.out];exact decide_eq_false a7
     have Hc:=zh C;clear C;generalize Lib.indexByte f.data.toList x=q at *
     go_wp2_with fail
     go_roundg g
     case measure=>omega
     case rel=>exact⟨i+1,by omega,a5.out,N.out,HN.out.succ Hx.out Hc.out⟩
   ·have a8:128<=x.toNat:=by omega
    obtain⟨k1,k2,-⟩:=a3.out a8
    go_wp2_with fail
    refine(zFM f rn _ b0 X.out k1 Z).mono ?_;rintro e w3 ⟨rfl,R⟩;have a9:=zh (R.heap a5.out id);have b4:=zh (N.out.step R zi);clear R
    go_wp2_with fail
    go_roundg (s.size-(i+wd))
    case measure=>omega
    case rel=>exact⟨i+wd,by omega,a9.out,b4.out,a4.out a8⟩
theorem zGu (s ends:ByteArray)(w:World)(v:s.size<=1000000)(h:ends.size<=1000)(o:Ascii ends):
  Calls Tryz.prog 261 #[.string s,.string ends] w fun e w'=>e=.returned (.int .i64 (Lib.indexAny s.data.toList ends.data.toList))/\Fr No w w':=by
 by_cases q:ends.size=0
 ·exact(Tryz.strings_IndexAny_none s ends w q).mono fun e w' ⟨f,g⟩=>⟨f,g▸Fr.refl _ _⟩
 by_cases f:ends.size=1
 ·exact(Tryz.strings_IndexAny_one s ends w f o).mono fun e w' ⟨f,g⟩=>⟨f,g▸Fr.refl _ _⟩
 by_cases u:s.size<=8
 ·exact zCX s ends w (by omega) h u o
 ·exact(Tryz.strings_IndexAny_long zKX s ends w (by omega) (by omega) (by omega) (by omega) o).mono fun e w' ⟨f,g⟩=>⟨f,g▸((Fr.refl _ _).alloc _).alloc _⟩
end Go.Proofs.YtinfjnndbfahhaaGreatDoor
