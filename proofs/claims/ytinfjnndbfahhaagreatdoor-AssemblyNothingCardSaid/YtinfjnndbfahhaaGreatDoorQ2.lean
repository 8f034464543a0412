import Derived.Test.YtinfjnndbfahhaaGreatDoorQ1
import Derived.OrdersHeld
namespace Go.Proofs.YtinfjnndbfahhaaGreatDoor
open Go.RowKit
set_option linter.unusedVariables false
set_option maxRecDepth 100000
set_option maxHeartbeats 400000
def look (ds:List Dev)(n:Int):Option Dev:=ds.find? (fun d=>decide (d.index=n))
theorem zAU {ds:List Dev}{n:Int}:look ds n=none↔∀ d∈ds,d.index≠n:=by
 unfold look;rw[List.find?_eq_none];simp
theorem zAN {ds:List Dev}{n:Int}{d:Dev}(h:look ds n=some d):d∈ds/\d.index=n:=by
 unfold look at h;exact⟨List.mem_of_find?_eq_some h,by simpa using List.find?_some h⟩
theorem zAa : ∀ (ds:List Dev) (n:Int),(look ds n=none/\place ds n=-1)\/∃ (k:Nat) (d:Dev),look ds n=some d/\place ds n=(k:Int)/\ds[k]?=some d
 | [],n=>.inl ⟨rfl,rfl⟩
 | x::t,n=>by
  by_cases f:x.index=n
  ·exact .inr ⟨0,x,by simp[look,f],by simp[place,f],rfl⟩
  ·have o:look (x::t) n=look t n:=by simp[look,f]
   rw[o];rcases zAa t n with⟨g,h⟩ | ⟨k,d,g,h,q⟩
   ·exact .inl ⟨g,by simp[place,f,h]⟩
   ·refine .inr ⟨k+1,d,g,?_,by simpa using q⟩;have:¬ ((k:Int)<0):=by omega
    simp[place,f,h,this]
theorem zCy {ds:List Dev}{n:Int}:place ds n<0↔look ds n=none:=by
 rcases zAa ds n with⟨f,g⟩ | ⟨k,d,f,g,o⟩
 ·simp[f,g]
 ·simp only[f,g];constructor
  ·intro h;omega
  ·intro h;cases h
theorem zHQ {ds:List Dev}{n:Int}{d:Dev}(h:look ds n=some d):devOf ds n=d:=by
 rcases zAa ds n with⟨f,g⟩ | ⟨k,e,f,g,o⟩
 ·rw[h]at f;cases f
 ·rw[h]at f;cases f;unfold devOf;rw[g,if_neg (by omega),Int.toNat_natCast,o];rfl
theorem zHP {ds:List Dev}{n:Int}(h:look ds n=none):devOf ds n=Dev.zero:=by
 unfold devOf;rw[if_pos (zCy.2 h)]
def chainK (ds:List Dev):Nat->Int->List Dev
 | 0,_=>[]
 | k+1,n=>match look ds n with
  | none=>[]
  | some d=>d::chainK ds k d.parent
def chain (ds:List Dev)(n:Int):List Dev:=chainK ds ds.length n
def origin (ds:List Dev)(n:Int):List ByteArray:=((chain ds n).map Dev.orig).reverse
theorem zDu (ds:List Dev):∀ (k:Nat) (n:Int),(chainK ds k n).length<=k
 | 0,_=>by simp[chainK]
 | k+1,n=>by
  unfold chainK;cases look ds n with
  | none=>simp
  | some d=>have:=zDu ds k d.parent;simp only[List.length_cons];omega
theorem zB3 (ds:List Dev)(n:Int):(chain ds n).length<=ds.length:=zDu ds _ n
theorem zDs (ds:List Dev):∀ (k:Nat) (n:Int) (d:Dev),d∈chainK ds k n->d∈ds
 | 0,_,d,h=>by simp[chainK]at h
 | k+1,n,d,h=>by
  unfold chainK at h;cases e:look ds n with
  | none=>rw[e]at h;simp at h
  | some x=>
   rw[e]at h;rcases List.mem_cons.1 h with h | h
   ·subst h;exact(zAN e).1
   ·exact zDs ds k _ d h
theorem zFG {ds:List Dev}{n:Int}{d:Dev}(h:d∈chain ds n):d∈ds:=zDs ds _ n d h
theorem zAg {ds:List Dev}{n:Int}(h:look ds n=none)(k:Nat):chainK ds k n=[]:=by
 cases k<;>simp[chainK,h]
inductive Ch (ds:List Dev):Int->List Dev->Prop
 | nil {n:Int} (h:look ds n=none):Ch ds n []
 | cons {n:Int} {d:Dev} {l:List Dev} (h:look ds n=some d) (t:Ch ds d.parent l):Ch ds n (d::l)
theorem Ch.fuel {ds:List Dev}{n:Int}{l:List Dev}(h:Ch ds n l):∀ k,l.length<=k->chainK ds k n=l:=by
 induction h with
 | nil h=>intro k _;exact zAg h k
 | cons h t g=>
  intro k f;cases k with
  | zero=>simp at f
  | succ k=>unfold chainK;rw[h];simp only[List.length_cons]at f;simp only[g k (by omega)]
theorem Ch.det {ds:List Dev}{n:Int}{l l':List Dev}(h:Ch ds n l)(f:Ch ds n l'):l=l':=by
 have g:=h.fuel (max l.length l'.length) (by omega);have o:=f.fuel (max l.length l'.length) (by omega);exact g.symm.trans o
structure TreeOk (ds:List Dev):Prop where
 nd:(ds.map Dev.index).Nodup
 ix:∀ d∈ds,1<=d.index/\d.index<=1073741824
 pa:∀ (k:Nat) (d:Dev),ds[k]?=some d->d.parent=0\/∃ (j:Nat) (e:Dev),j<k/\ds[j]?=some e/\e.index=d.parent
 nm:∀ d∈ds,OkN d.orig
theorem TreeOk.sz {ds:List Dev}(h:TreeOk ds):∀ d∈ds,d.orig.size<=32:=fun d f=>(h.nm d f).1
theorem TreeOk.nil : TreeOk []:=⟨by simp,by simp,by simp,by simp⟩
section
variable {ds:List Dev}
theorem zAF : ∀ {ds:List Dev},(ds.map Dev.index).Nodup->∀ {d:Dev},d∈ds->look ds d.index=some d
 | [],_,d,h=>by simp at h
 | x::t,f,d,h=>by
  simp only[List.map_cons,List.nodup_cons]at f;rcases List.mem_cons.1 h with h | h
  ·subst h;simp[look]
  ·have:x.index≠d.index:=by
    intro e;apply f.1;rw[e];exact List.mem_map_of_mem h
   have g:=zAF f.2 h;unfold look at g ⊢;simp[this,g]
theorem TreeOk.lk (h:TreeOk ds){d:Dev}(f:d∈ds):look ds d.index=some d:=zAF h.nd f
theorem TreeOk.zero (h:TreeOk ds):look ds 0=none:=zAU.2 fun d f e=>by have:=(h.ix d f).1;omega
theorem TreeOk.ch (h:TreeOk ds):∀ (k:Nat) (d:Dev),ds[k]?=some d->∃ l,Ch ds d.index l/\l.length<=k+1:=by
 intro k
 induction k using Nat.strongRecOn with
 | ind k q=>
  intro d f;have g:=List.mem_of_getElem? f;rcases h.pa k d f with u | ⟨j,e,v,y,z⟩
  ·refine⟨[d],.cons (h.lk g) ?_,by simp⟩;rw[u];exact .nil h.zero
  ·obtain⟨l,A,o⟩:=q j v e y;refine⟨d::l,.cons (h.lk g) (by rw[<-z];exact A),by simp only[List.length_cons];omega⟩
theorem TreeOk.chn (h:TreeOk ds){n:Int}{d:Dev}(o:look ds n=some d):Ch ds n (chain ds n):=by
 obtain⟨q,rfl⟩:=zAN o;obtain⟨k,f⟩:=List.getElem?_of_mem q;obtain⟨l,g,v⟩:=h.ch k d f;have u:k<ds.length:=(List.getElem?_eq_some_iff.1 f).1;have e:chain ds d.index=l:=g.fuel ds.length (by omega);rw[e];exact g
theorem TreeOk.chn0 (h:TreeOk ds)(n:Int):Ch ds n (chain ds n):=by
 cases e:look ds n with
 | none=>rw[show chain ds n=[]from zAg e _];exact .nil e
 | some d=>exact h.chn e
theorem TreeOk.chain_cons (h:TreeOk ds){n:Int}{d:Dev}(f:look ds n=some d):chain ds n=d::chain ds d.parent:=by
 exact(h.chn f).det (.cons f (h.chn0 _))
theorem TreeOk.chain_none {n:Int}(f:look ds n=none):chain ds n=[]:=zAg f _
theorem TreeOk.origin_cons (h:TreeOk ds){n:Int}{d:Dev}(f:look ds n=some d):origin ds n=origin ds d.parent++[d.orig]:=by
 unfold origin;rw[h.chain_cons f];simp
theorem TreeOk.origin_none {n:Int}(f:look ds n=none):origin ds n=[]:=by
 unfold origin;rw[TreeOk.chain_none f];rfl
end
def insAt (ds:List Dev)(k:Nat)(d:Dev):List Dev:=ds.take k++d::ds.drop k
theorem zt {ds:List Dev}{k:Nat}{d e:Dev}:e∈insAt ds k d↔e=d\/e∈ds:=by
 unfold insAt;have h:e∈ds↔e∈ds.take k\/e∈ds.drop k:=by rw[<-List.mem_append,List.take_append_drop]
 rw[List.mem_append,List.mem_cons,h];constructor
 ·rintro (h | h | h)
  ·exact .inr (.inl h)
  ·exact .inl h
  ·exact .inr (.inr h)
 ·rintro (h | h | h)
  ·exact .inr (.inl h)
  ·exact .inl h
  ·exact .inr (.inr h)
theorem zB0 {ds:List Dev}{k:Nat}{d:Dev}:(insAt ds k d).length=ds.length+1:=by
 unfold insAt;have:=congrArg List.length (List.take_append_drop k ds);simp only[List.length_append,List.length_cons]at this ⊢;omega
theorem zCd {ds:List Dev}{k i:Nat}{d:Dev}(g:k<=ds.length)(f:i<k):(insAt ds k d)[i]?=ds[i]?:=by
 unfold insAt;rw[List.getElem?_append_left (by simp;omega),List.getElem?_take_of_lt f]
theorem zJo {ds:List Dev}{k:Nat}{d:Dev}(f:k<=ds.length):(insAt ds k d)[k]?=some d:=by
 unfold insAt;rw[List.getElem?_append_right (by simp;omega)];simp[Nat.min_eq_left f]
theorem zGW {ds:List Dev}{k i:Nat}{d:Dev}(f:k<=ds.length)(g:k<=i):(insAt ds k d)[i+1]?=ds[i]?:=by
 unfold insAt;rw[List.getElem?_append_right (by simp;omega)];simp only[List.length_take,Nat.min_eq_left f];rw[show i+1-k=(i-k)+1 from by omega];simp only[List.getElem?_cons_succ,List.getElem?_drop];rw[show k+(i-k)=i from by omega]
theorem TreeOk.insert {ds:List Dev}(h:TreeOk ds){k:Nat}{d:Dev}(q:k<=ds.length)(v:look ds d.index=none)(J:1<=d.index/\d.index<=1073741824)(L:OkN d.orig)
  (N:d.parent=0\/∃ (j:Nat) (e:Dev),j<k/\ds[j]?=some e/\e.index=d.parent):TreeOk (insAt ds k d):=by
 have C:=zAU.1 v;refine⟨?_,?_,?_,?_⟩
 ·unfold insAt;have O:=h.nd;rw[<-List.take_append_drop k ds,List.map_append]at O;rw[List.map_append,List.map_cons];have I:((d::(ds.take k++ds.drop k)).map Dev.index).Nodup:=by
   rw[List.map_cons,List.nodup_cons];refine⟨?_,by rwa [List.map_append]⟩;rw[List.take_append_drop];intro R;obtain⟨e,g,D⟩:=List.mem_map.1 R;exact C e g D
  rw[List.map_cons,List.map_append]at I;exact(List.perm_middle.nodup_iff).2 I
 ·intro e g;rcases zt.1 g with rfl | g
  ·exact J
  ·exact h.ix e g
 ·intro i e g;rcases Nat.lt_trichotomy i k with y | rfl | y
  ·rw[zCd q y]at g;rcases h.pa i e g with z | ⟨j,f,A,u,o⟩
   ·exact .inl z
   ·exact .inr ⟨j,f,A,by rw[zCd q (by omega)];exact u,o⟩
  ·rw[zJo q]at g;cases g;rcases N with z | ⟨j,f,A,u,o⟩
   ·exact .inl z
   ·exact .inr ⟨j,f,A,by rw[zCd q A];exact u,o⟩
  ·obtain⟨i,rfl⟩:∃ m,i=m+1:=⟨i-1,by omega⟩
   rw[zGW q (by omega)]at g;rcases h.pa i e g with z | ⟨j,f,A,u,o⟩
   ·exact .inl z
   ·by_cases F:j<k
    ·exact .inr ⟨j,f,by omega,by rw[zCd q F];exact u,o⟩
    ·exact .inr ⟨j+1,f,by omega,by rw[zGW q (by omega)];exact u,o⟩
 ·intro e g;rcases zt.1 g with rfl | g
  ·exact L
  ·exact h.nm e g
theorem zGR {ds:List Dev}{k:Nat}{d:Dev}(f:((insAt ds k d).map Dev.index).Nodup)(q:look ds d.index=none)(n:Int):look (insAt ds k d) n=if n=d.index then some d else look ds n:=by
 split
 ·rename_i e;subst e;exact zAF f (zt.2 (.inl rfl))
 ·rename_i o;cases hl:look ds n with
  | none=>
   rw[zAU]at hl ⊢;intro e g;rcases zt.1 g with rfl | g
   ·exact fun h=>o h.symm
   ·exact hl e g
  | some e=>
   obtain⟨g,rfl⟩:=zAN hl;exact zAF f (zt.2 (.inr g))
theorem Ch.ins {ds:List Dev}{k:Nat}{d:Dev}(v:TreeOk ds)(o:((insAt ds k d).map Dev.index).Nodup)(g:look ds d.index=none)(F:1<=d.index){n:Int}{l:List Dev}(h:Ch ds n l)(u:n≠d.index):Ch (insAt ds k d) n l:=by
 induction h with
 | nil h=>exact .nil (by rw[zGR o g,if_neg u];exact h)
 | @cons n e l h t y=>
  refine .cons (by rw[zGR o g,if_neg u];exact h) (y ?_);obtain⟨z,_⟩:=zAN h;obtain⟨j,A⟩:=List.getElem?_of_mem z;rcases v.pa j e A with C | ⟨I,f,_,D,q⟩
  ·rw[C];omega
  ·rw[<-q];exact zAU.1 g f (List.mem_of_getElem? D)
structure TreeWf (ds:List Dev):Prop where
 ok:TreeOk ds
 uo:∀ d∈ds,∀ e∈ds,origin ds d.index=origin ds e.index->d=e
 dp:∀ d∈ds,(origin ds d.index).length<=7
theorem TreeWf.nil : TreeWf []:=⟨TreeOk.nil,by simp,by simp⟩
theorem zFs {ds:List Dev}(f:TreeOk ds){n:Int}{l:List Dev}(h:Ch ds n l):chain ds n=l:=(f.chn0 n).det h
theorem TreeWf.insert {ds:List Dev}(h:TreeWf ds){k:Nat}{d:Dev}(V:k<=ds.length)(q:look ds d.index=none)(O:1<=d.index/\d.index<=1073741824)(X:OkN d.orig)(I:d.parent≠d.index)
  (Y:d.parent=0\/∃ (j:Nat) (e:Dev),j<k/\ds[j]?=some e/\e.index=d.parent) (R:∀ e∈ds,origin ds e.index≠origin ds d.parent++[d.orig]) (Z:(origin ds d.parent).length<7):
  TreeWf (insAt ds k d)/\(∀ n,n≠d.index->chain (insAt ds k d) n=chain ds n)/\chain (insAt ds k d) d.index=d::chain ds d.parent:=by
 have D:=h.ok.insert V q O X Y;have u:∀ n,n≠d.index->chain (insAt ds k d) n=chain ds n:=fun n J=>zFs D ((h.ok.chn0 n).ins h.ok D.nd q O.1 J)
 have v:chain (insAt ds k d) d.index=d::chain ds d.parent:=by
  rw[D.chain_cons (D.lk (zt.2 (.inl rfl))),u _ I]
 have f:∀ n,n≠d.index->origin (insAt ds k d) n=origin ds n:=fun n J=>by unfold origin;rw[u n J]
 have g:origin (insAt ds k d) d.index=origin ds d.parent++[d.orig]:=by unfold origin;rw[v];simp
 have z:=zAU.1 q;refine⟨⟨D,?_,?_⟩,u,v⟩
 ·intro x L y U C;rcases zt.1 L with F | o
  ·rcases zt.1 U with N | A
   ·rw[F,N]
   ·rw[F,g,f _ (z y A)]at C;exact absurd C.symm (R y A)
  ·rcases zt.1 U with N | A
   ·rw[N,g,f _ (z x o)]at C;exact absurd C (R x o)
   ·rw[f _ (z x o),f _ (z y A)]at C;exact h.uo x o y A C
 ·intro x L;rcases zt.1 L with F | o
  ·rw[F,g];simp;omega
  ·rw[f _ (z x o)];exact h.dp x o
def OnlyN (K:Act->World->Prop):Exit->Act->World->Prop
 | .normal,a,w=>K a w
 | _,_,_=>False
theorem OnlyN.mk {K:Act->World->Prop}{a:Act}{w:World}(h:K a w):OnlyN K .normal a w:=h
def nth : List Oper->Nat->Option Oper
 | [],_=>none
 | o::_,0=>some o
 | _::l,n+1=>nth l n
theorem zDj : ∀ (l:List Oper) (i:Nat),nth l i=l[i]?
 | [],_=>by simp[nth]
 | _::_,0=>rfl
 | _::l,n+1=>by simp only[nth,List.getElem?_cons_succ];exact zDj l n
def zAo : Op->Bool
 | .move _ | .assign _ | .pick _ _ _ | .load _ _ | .nilCheck _ | .binOp _ _ _ _ _ | .unOp _ _ _ | .convert _ _ _ | .fieldAddr _ _ _ | .field _ _ _ | .indexAddr _ _ _ | .index _ _ _
 | .lookup _ _ _ _ | .extract _ _ | .build _ _ | .slice _ _ _ _ _ | .makeInterface _ _ | .makeFunc _ _ _=>true
 | .call c=>match c.callee with | .builtin .len=>true | .builtin .cap=>true | _=>false
 | _=>false
def zFL (P:Program)(o:Oper)(a:Act)(C:World->Prop)(v:Value):Prop:=∀ W,C W->(execOp a.eval o).run P W=.ok (.value v) W
theorem zF9 {P:Program}{s:Sem Value}{W g:World}{n:Next}(h:(do pure (Next.value (← s)):Sem Next).run P W=.ok n g):∃ v,n=.value v:=by
 rw[Sem.run_bind]at h;cases hs:s.run P W with
 | ok x f=>rw[hs]at h;simp only[Result.andThen_ok]at h;cases h;exact⟨x,rfl⟩
 | halt x f=>rw[hs]at h;simp only[Result.andThen_halt]at h;cases h
theorem zCb {P:Program}{α:Type}{s:Sem α}{f:α->Sem Next}{W o:World}{n:Next}(h:(s >>= f).run P W=.ok n o)(q:∀ x W,(f x).run P W=.ok n o->∃ v,n=.value v):∃ v,n=.value v:=by
 rw[Sem.run_bind]at h;cases hs:s.run P W with
 | ok x g=>rw[hs]at h;simp only[Result.andThen_ok]at h;exact q x _ h
 | halt x g=>rw[hs]at h;simp only[Result.andThen_halt]at h;cases h
theorem zA7 {P:Program}{x:Value}{W f:World}{n:Next}(h:(pure (Next.value x):Sem Next).run P W=.ok n f):∃ v,n=.value v:=by
 cases h;exact⟨_,rfl⟩
theorem zBu {P:Program}{W f:World}{n:Next}(h:(runtimePanic .nilDeref:Sem Next).run P W=.ok n f):∃ v,n=.value v:=by
 unfold runtimePanic at h;simp[Sem.run_bind,goPanic,program,Sem.run]at h
theorem zA4 {P:Program}(ρ:Operand->Value)(o:Oper)(q:zAo o.op=true){W C:World}{n:Next}(h:(execOp ρ o).run P W=.ok n C):∃ v,n=.value v:=by
 obtain⟨D,F,A,I,u,z⟩:=o;cases F<;>simp only[zAo,Bool.false_eq_true]at q
 case nilCheck x=>
  unfold execOp at h;dsimp only at h;split at h
  ·exact zBu h
  ·exact zBu h
  ·exact zBu h
  ·split at h
   ·exact zBu h
   ·refine zCb h fun _ _ h=>zCb h fun _ _ h=>?_
    split at h
    ·exact zCb h fun _ _ h=>zA7 h
    ·exact zA7 h
   ·exact zA7 h
  ·exact zA7 h
 case call c=>
  obtain⟨g,args,J⟩:=c;cases g with
  | value f=>simp at q
  | invoke r m=>simp at q
  | builtin b=>
   cases b<;>simp at q
   all_goals
    exact zF9 h
 case move x=>unfold execOp at h;exact zA7 h
 case assign x=>unfold execOp at h;exact zA7 h
 case pick c x y=>
  unfold execOp at h;dsimp only at h;refine zCb h fun _ _ h=>?_
  split at h<;>exact zA7 h
 all_goals (unfold execOp at h;exact zF9 h)
structure Gr (T:Nat->Prop)(w:World) where
 W:World
 fr:Fr T w W
instance (T:Nat->Prop)(w:World):Inhabited (Gr T w):=⟨⟨w,Fr.refl _ _⟩⟩
def Cls (T:Nat->Prop)(w:World):World->Prop:=fun W=>∃ g:Gr T w,W=g.W
def wpSig (P:Program)(l:List Oper)(Q:Exit->Act->World->Prop)(T:Nat->Prop):List (Nat×Bool)->Act->World->Prop
 | [],a,w=>Q .normal a w
 | (i,mv)::σ,a,w=>match nth l i with
  | none=>False
  | some o=>
   if mv=true then wpList P l.toArray (OnlyN fun a' w'=>Fr T w w'/\wpSig P l Q T σ a' w') [o] a w
   else zAo o.op=true/\(if Region.wanted o (yielded l.toArray a.tmps)=true then ∃ v,zFL P o a (Cls T w) v/\wpSig P l Q T σ (a.put o.dst v) w else wpSig P l Q T σ (a.put o.dst undef) w)
def schedB (ops:Array Oper):List (Nat×Bool)->Array Bool->Bool
 | [],listed=>(Region.ready .any ops listed).isEmpty
 | (i,mv)::σ,listed=>(if mv then Region.ready .any ops listed==[i]else (Region.ready .any ops listed).contains i&&Region.free .any ops listed i)&&schedB ops σ (listed.setIfInBounds i true)
section
variable {P:Program}{ops:Array Oper}{Q:Exit->Act->World->Prop}{md:Region.Mode}{S S':World->Prop}
theorem zDR (h:∀ W,S W->S' W):∀ (fuel:Nat) (f:Array Bool) (a:Act) (w:World),wpAnyH P md ops Q S fuel f a w->wpAnyH P md ops Q S' fuel f a w
 | 0,_,_,_,g=>g
 | fuel+1,_,_,_,g=>⟨g.1,fun i q=>wpOp_mono (fun u w' o=>⟨h _ o.1,zDR h fuel _ u w' o.2⟩) (g.2 i q)⟩
theorem zFO {o:Oper}{a:Act}{w:World}{K q:Act->World->Prop}(f:o.wp P a w K (OnlyN q)):o.wp P a w K Q:=by
 unfold Oper.wp at *;generalize (execOp a.eval o).run P w=r at *;cases r with
 | ok n w'=>
  cases n<;>simp only[Oper.upon]at f ⊢
  case value=>exact f
  case skip=>exact f
  case defer=>exact f
  case enter=>
   refine Calls.mono f (fun e u g=>?_);cases e with
   | returned v=>exact g
   | panicked c=>exact g.elim
   | outgrown=>obtain⟨_,_,h⟩:=g;exact h.elim
  case row=>exact Rows.mono f (fun _ _ g=>g)
 | halt x w'=>
  cases x<;>simp only[Oper.upon]at f ⊢
  case panic=>exact f.elim
theorem zGm (T:Nat->Prop)(w:World):Cls T w w:=⟨⟨w,Fr.refl _ _⟩,rfl⟩
theorem zAi {l:List Oper}{T:Nat->Prop}(z:Region.noSelect l.toArray=true):∀ (σ:List (Nat×Bool)) (listed:Array Bool) (a:Act) (w:World),
  schedB l.toArray σ listed=true->wpSig P l Q T σ a w->wpAnyH P .any l.toArray (OnlyN (Q .normal)) (Fr T w) σ.length listed a w
 | [],listed,a,w,C,h=>wpAnyH_done (P:=P) (S:=Fr T w) (Q:=OnlyN (Q .normal)) (md:=.any) (by simpa [schedB]using C) (show OnlyN (Q .normal) .normal a w from h) 0
 | (i,I)::σ,listed,a,w,C,h=>by
  simp only[schedB,Bool.and_eq_true]at C;obtain⟨f,q⟩:=C;simp only[wpSig]at h;cases hn:nth l i with
  | none=>rw[hn]at h;exact h.elim
  | some o=>
   rw[hn]at h;have D:l.toArray[i]?=some o:=by rw[List.getElem?_toArray,<-zDj];exact hn
   cases I with
   | true=>
    simp only[if_true,beq_iff_eq]at f h;refine wpAnyH_all (rs:=[i]) f (by simp) ?_;intro j J;obtain rfl:j=i:=by simpa using J
    have g:∀ y w',(Fr T w w'/\wpSig P l Q T σ y w')->Fr T w w'/\wpAnyH P .any l.toArray (OnlyN (Q .normal)) (Fr T w) σ.length (listed.setIfInBounds j true) y w':=fun y w' A=>
     ⟨A.1,zDR (fun W F=>A.1.step F zi) _ _ _ _ (zAi z σ _ y w' q A.2)⟩
    unfold wpOp;simp only[D];unfold wpList at h;split
    ·rename_i u;rw[if_pos u]at h;rcases h with h | ⟨_,h⟩
     ·exact .inl (Oper.wp_mono (fun y w' A=>g y w' A) (zFO h))
     ·obtain⟨_,_,h⟩:=h;exact h.elim
    ·rename_i u;rw[if_neg u]at h;exact g _ _ h
   | false=>
    simp only[Bool.false_eq_true,if_false,Bool.and_eq_true]at f h;obtain⟨N,h⟩:=h;split at h
    ·rename_i u;obtain⟨v,L,h⟩:=h;exact wpAnyH_take D z f.2 f.1 (fun _ _ _ h=>h.elim) (.inl ⟨u,fun W F=>L W ⟨⟨W,F⟩,rfl⟩⟩) (Fr.refl _ _) (zAi z σ _ _ w q h)
    ·rename_i u;exact wpAnyH_take D z f.2 f.1 (fun _ _ _ h=>h.elim) (.inr ⟨by simpa using u,rfl⟩) (Fr.refl _ _) (zAi z σ _ _ w q h)
end
section
variable {P:Program}{Q:Exit->Act->World->Prop}{T:Nat->Prop}{l:List Oper}{σ:List (Nat×Bool)}{a:Act}{w:World}
theorem zQ {q:Nat}(T:Nat->Prop)(σ:List (Nat×Bool))(u:P.follows .mixedOrders=true)
  (f:(Region.noSelect l.toArray&&(σ.length==l.length)&&schedB l.toArray σ (Array.replicate l.toArray.size false))=true)
  (h:∀ g,Fr No w g->wpSig P l Q T σ a g):(Code.region q l.toArray true).wp P Q a w:=by
 simp only[Bool.and_eq_true,beq_iff_eq]at f;have o:=zAi (Q:=Q) f.1.1 σ _ a w.drew f.2 (h _ ((Fr.refl No w).drew));have v:l.toArray.size=σ.length:=by simp[f.1.2]
 rw[<-v]at o;refine wp_mono (wp_region_held (S:=Fr T w.drew) u o) fun e a w h=>?_
 cases e<;>first | exact h | exact h.elim
theorem zY (h:Q .normal a w):wpSig P l Q T [] a w:=h
theorem zS {i:Nat}{o:Oper}(z:nth l i=some o)(y:zAo o.op=true)(A:Region.wanted o (yielded l.toArray a.tmps)=true)
  (h:∀ K:Act->Prop,(∀ q,wpSig P l Q T σ q w->K q)->o.quiet P a (fun W=>∃ g:Gr T w,W=g.W) K):wpSig P l Q T ((i,false)::σ) a w:=by
 obtain⟨v,C,D⟩:=h (fun q=>wpSig P l Q T σ q w) (fun _ h=>h);simp only[wpSig,z,Bool.false_eq_true,if_false,A,if_true];refine⟨y,v,fun W F=>?_,D⟩;have f:=C W F;unfold Oper.quietAt at f;cases hr:(execOp a.eval o).run P W with
 | halt x I=>rw[hr]at f;exact f.elim
 | ok n I=>
  obtain⟨u,rfl⟩:=zA4 a.eval o y hr;rw[hr]at f;obtain⟨J,L⟩:=f;rw[J,L]
theorem zW {i:Nat}{u:Option Tmp}{A:Op}{f:TypeId}{y:String}{o:Array Edge}{q:Option (Nat×Bool)}(C:nth l i=some ⟨u,A,f,y,o,q⟩)(D:zAo A=true)
  (F:Region.wanted ⟨u,A,f,y,o,q⟩ (yielded l.toArray a.tmps)=false)
  (h:∀ K:Act->Prop,(∀ z,wpSig P l Q T σ z w->K z)->(⟨u,.assign (.const undef),f,y,#[],none⟩:Oper).quiet P a (fun W=>∃ g:Gr T w,W=g.W) K):wpSig P l Q T ((i,false)::σ) a w:=by
 obtain⟨v,I,J⟩:=h (fun z=>wpSig P l Q T σ z w) (fun _ h=>h);simp only[wpSig,C,Bool.false_eq_true,if_false,F];refine⟨D,?_⟩;have L:=I w (zGm T w);obtain⟨_,rfl⟩:=(L:w=w/\undef=v)
 exact J
theorem zk {i:Nat}{o:Oper}(f:nth l i=some o)(h:wpList P l.toArray (OnlyN fun g w'=>Fr T w w'/\wpSig P l Q T σ g w') [o] a w):wpSig P l Q T ((i,true)::σ) a w:=by
 simp only[wpSig,f,if_true];exact h
end
inductive Sg where
 | fin:Sg
 | q (i:Nat) (n:Sg):Sg
 | m1 (i:Nat) (n:Sg):Sg
 | m2 (i:Nat) (n:Sg) (j:Nat) (n':Sg):Sg
 | m3 (i:Nat) (n:Sg) (j:Nat) (n':Sg) (k:Nat) (n'':Sg):Sg
def Sg.size : Sg->Nat
 | .fin=>0
 | .q _ n=>n.size+1
 | .m1 _ n=>n.size+1
 | .m2 _ n _ _=>n.size+1
 | .m3 _ n _ _ _ _=>n.size+1
def schedT (ops:Array Oper):Sg->Array Bool->Bool
 | .fin,listed=>(Region.ready .any ops listed).isEmpty
 | .q i n,listed=>(Region.ready .any ops listed).contains i&&Region.free .any ops listed i&&schedT ops n (listed.setIfInBounds i true)
 | .m1 i n,listed=>(Region.ready .any ops listed==[i])&&schedT ops n (listed.setIfInBounds i true)
 | .m2 i n j n',listed=>(Region.ready .any ops listed==[i,j])&&(n'.size==n.size)&&schedT ops n (listed.setIfInBounds i true)&&schedT ops n' (listed.setIfInBounds j true)
 | .m3 i n j n' k n'',listed=>(Region.ready .any ops listed==[i,j,k])&&(n'.size==n.size)&&(n''.size==n.size)&&schedT ops n (listed.setIfInBounds i true)&&schedT ops n' (listed.setIfInBounds j true)&&schedT ops n'' (listed.setIfInBounds k true)
def wpMv (P:Program)(l:List Oper)(T:Nat->Prop)(i:Nat)(K:Act->World->Prop)(a:Act)(w:World):Prop:=
 match nth l i with
 | none=>False
 | some o=>wpList P l.toArray (OnlyN fun a' w'=>Fr T w w'/\K a' w') [o] a w
def wpSg (P:Program)(l:List Oper)(M:Act->World->Prop)(T:Nat->Prop):Sg->Act->World->Prop
 | .fin,a,w=>M a w
 | .q i n,a,w=>match nth l i with
  | none=>False
  | some o=>zAo o.op=true/\(if Region.wanted o (yielded l.toArray a.tmps)=true then ∃ v,zFL P o a (Cls T w) v/\wpSg P l M T n (a.put o.dst v) w else wpSg P l M T n (a.put o.dst undef) w)
 | .m1 i n,a,w=>wpMv P l T i (wpSg P l M T n) a w
 | .m2 i n j n',a,w=>wpMv P l T i (wpSg P l M T n) a w/\wpMv P l T j (wpSg P l M T n') a w
 | .m3 i n j n' k n'',a,w=>wpMv P l T i (wpSg P l M T n) a w/\wpMv P l T j (wpSg P l M T n') a w/\wpMv P l T k (wpSg P l M T n'') a w
section
variable {P:Program}{M:Act->World->Prop}
theorem zCK {l:List Oper}{T:Nat->Prop}{i:Nat}{K:Act->World->Prop}{g:Nat}{f:Array Bool}{a:Act}{w:World}(h:wpMv P l T i K a w)
  (z:∀ q w',K q w'->wpAnyH P .any l.toArray (OnlyN M) (Fr T w') g (f.setIfInBounds i true) q w'):
  wpOp P l.toArray (OnlyN M) i (fun q w'=>Fr T w w'/\wpAnyH P .any l.toArray (OnlyN M) (Fr T w) g (f.setIfInBounds i true) q w') a w:=by
 unfold wpMv at h;cases ho':nth l i with
 | none=>rw[ho']at h;exact h.elim
 | some o=>
  rw[ho']at h;dsimp only at h;have A:l.toArray[i]?=some o:=by rw[List.getElem?_toArray,<-zDj];exact ho'
  have u:∀ q w',(Fr T w w'/\K q w')->Fr T w w'/\wpAnyH P .any l.toArray (OnlyN M) (Fr T w) g (f.setIfInBounds i true) q w':=fun q w' v=>
   ⟨v.1,zDR (fun W C=>v.1.step C zi) _ _ _ _ (z q w' v.2)⟩
  unfold wpOp;simp only[A];unfold wpList at h;split
  ·rename_i y;rw[if_pos y]at h;rcases h with h | ⟨_,h⟩
   ·exact .inl (Oper.wp_mono (fun q w' v=>u q w' v) (zFO h))
   ·obtain⟨_,_,h⟩:=h;exact h.elim
  ·rename_i y;rw[if_neg y]at h;exact u _ _ h
theorem anyT {l:List Oper}{T:Nat->Prop}(C:Region.noSelect l.toArray=true):∀ (σ:Sg) (f:Array Bool) (a:Act) (w:World),
  schedT l.toArray σ f=true->wpSg P l M T σ a w->wpAnyH P .any l.toArray (OnlyN M) (Fr T w) σ.size f a w
 | .fin,f,a,w,u,h=>wpAnyH_done (P:=P) (S:=Fr T w) (Q:=OnlyN M) (md:=.any) (by simpa [schedT]using u) (show OnlyN M .normal a w from h) 0
 | .q i n,f,a,w,u,h=>by
  simp only[schedT,Bool.and_eq_true]at u;obtain⟨g,y⟩:=u;simp only[wpSg]at h;cases hn:nth l i with
  | none=>rw[hn]at h;exact h.elim
  | some o=>
   rw[hn]at h;have U:l.toArray[i]?=some o:=by rw[List.getElem?_toArray,<-zDj];exact hn
   obtain⟨hv,h⟩:=h;split at h
   ·rename_i I;obtain⟨v,V,h⟩:=h;exact wpAnyH_take U C g.2 g.1 (fun _ _ _ h=>h.elim) (.inl ⟨I,fun W X=>V W ⟨⟨W,X⟩,rfl⟩⟩) (Fr.refl _ _) (anyT C n _ _ w y h)
   ·rename_i I;exact wpAnyH_take U C g.2 g.1 (fun _ _ _ h=>h.elim) (.inr ⟨by simpa using I,rfl⟩) (Fr.refl _ _) (anyT C n _ _ w y h)
 | .m1 i n,f,a,w,u,h=>by
  simp only[schedT,Bool.and_eq_true,beq_iff_eq]at u;refine wpAnyH_all (rs:=[i]) u.1 (by simp) ?_;intro j Y;obtain rfl:j=i:=by simpa using Y
  exact zCK h (fun z w' A=>anyT C n _ z w' u.2 A)
 | .m2 i n j J,f,a,w,u,h=>by
  simp only[schedT,Bool.and_eq_true,beq_iff_eq]at u;obtain⟨⟨⟨g,D⟩,y⟩,F⟩:=u;refine wpAnyH_all (rs:=[i,j]) g (by simp) ?_;intro x L;simp only[List.mem_cons,List.not_mem_nil,or_false]at L;by_cases e:x=i
  ·subst e;exact zCK h.1 (fun z w' A=>anyT C n _ z w' y A)
  ·obtain rfl:x=j:=by omega
   exact zCK h.2 (fun z w' A=>by have:=anyT C J _ z w' F A;rwa [D]at this)
 | .m3 i n j J k N,f,a,w,u,h=>by
  simp only[schedT,Bool.and_eq_true,beq_iff_eq]at u;obtain⟨⟨⟨⟨⟨g,D⟩,O⟩,y⟩,F⟩,R⟩:=u;refine wpAnyH_all (rs:=[i,j,k]) g (by simp) ?_;intro x L;simp only[List.mem_cons,List.not_mem_nil,or_false]at L;by_cases e:x=i
  ·subst e;exact zCK h.1 (fun z w' A=>anyT C n _ z w' y A)
  ·by_cases Z:x=j
   ·subst Z;exact zCK h.2.1 (fun z w' A=>by have:=anyT C J _ z w' F A;rwa [D]at this)
   ·obtain rfl:x=k:=by omega
    exact zCK h.2.2 (fun z w' A=>by have:=anyT C N _ z w' R A;rwa [O]at this)
end
section
variable {P:Program}{M:Act->World->Prop}{T:Nat->Prop}{l:List Oper}{σ σ' σ'':Sg}{a:Act}{w:World}
theorem zb {u:Nat}{Q:Exit->Act->World->Prop}(T:Nat->Prop)(σ:Sg)(M:Act->World->Prop)(v:P.follows .mixedOrders=true)
  (f:(Region.noSelect l.toArray&&(σ.size==l.length)&&schedT l.toArray σ (Array.replicate l.toArray.size false))=true)
  (h:∀ g,Fr No w g->wpSg P l M T σ a g) (y:∀ o w',M o w'->Q .normal o w'):(Code.region u l.toArray true).wp P Q a w:=by
 simp only[Bool.and_eq_true,beq_iff_eq]at f;have q:=anyT (M:=M) f.1.1 σ _ a w.drew f.2 (h _ ((Fr.refl No w).drew));have z:l.toArray.size=σ.size:=by simp[f.1.2]
 rw[<-z]at q;refine wp_mono (wp_region_held (S:=Fr T w.drew) v q) fun e a w h=>?_
 cases e<;>first | exact y _ _ h | exact h.elim
theorem zX (h:M a w):wpSg P l M T .fin a w:=h
theorem zM {i:Nat}{o:Oper}(A:nth l i=some o)(z:zAo o.op=true)(C:Region.wanted o (yielded l.toArray a.tmps)=true)
  (h:∀ K:Act->Prop,(∀ y,wpSg P l M T σ y w->K y)->o.quiet P a (fun W=>∃ g:Gr T w,W=g.W) K):wpSg P l M T (.q i σ) a w:=by
 obtain⟨v,D,F⟩:=h (fun y=>wpSg P l M T σ y w) (fun _ h=>h);simp only[wpSg,A,C,if_true];refine⟨z,v,fun W I=>?_,F⟩;have f:=D W I;unfold Oper.quietAt at f;cases hr:(execOp a.eval o).run P W with
 | halt x J=>rw[hr]at f;exact f.elim
 | ok n J=>
  obtain⟨u,rfl⟩:=zA4 a.eval o z hr;rw[hr]at f;obtain⟨L,N⟩:=f;rw[L,N]
theorem zO {i:Nat}{y:Option Tmp}{C:Op}{f:TypeId}{z:String}{o:Array Edge}{u:Option (Nat×Bool)}(D:nth l i=some ⟨y,C,f,z,o,u⟩)(F:zAo C=true)
  (I:Region.wanted ⟨y,C,f,z,o,u⟩ (yielded l.toArray a.tmps)=false)
  (h:∀ K:Act->Prop,(∀ A,wpSg P l M T σ A w->K A)->(⟨y,.assign (.const undef),f,z,#[],none⟩:Oper).quiet P a (fun W=>∃ g:Gr T w,W=g.W) K):wpSg P l M T (.q i σ) a w:=by
 obtain⟨v,J,L⟩:=h (fun A=>wpSg P l M T σ A w) (fun _ h=>h);simp only[wpSg,D,Bool.false_eq_true,if_false,I];refine⟨F,?_⟩;have N:=J w (zGm T w);obtain⟨_,rfl⟩:=(N:w=w/\undef=v)
 exact L
theorem zHG {i:Nat}{o:Oper}{K:Act->World->Prop}(f:nth l i=some o)(h:wpList P l.toArray (OnlyN fun g w'=>Fr T w w'/\K g w') [o] a w):wpMv P l T i K a w:=by
 unfold wpMv;rw[f];exact h
theorem zH {i:Nat}{o:Oper}(f:nth l i=some o)(h:wpList P l.toArray (OnlyN fun g w'=>Fr T w w'/\wpSg P l M T σ g w') [o] a w):wpSg P l M T (.m1 i σ) a w:=zHG f h
theorem zv {i j:Nat}{o q:Oper}(u:nth l i=some o)(f:nth l j=some q)(h:wpList P l.toArray (OnlyN fun g w'=>Fr T w w'/\wpSg P l M T σ g w') [o] a w)
  (v:wpList P l.toArray (OnlyN fun g w'=>Fr T w w'/\wpSg P l M T σ' g w') [q] a w):wpSg P l M T (.m2 i σ j σ') a w:=⟨zHG u h,zHG f v⟩
theorem zKg {i j k:Nat}{o y f:Oper}(z:nth l i=some o)(u:nth l j=some y)(g:nth l k=some f)(h:wpList P l.toArray (OnlyN fun q w'=>Fr T w w'/\wpSg P l M T σ q w') [o] a w)
  (A:wpList P l.toArray (OnlyN fun q w'=>Fr T w w'/\wpSg P l M T σ' q w') [y] a w) (v:wpList P l.toArray (OnlyN fun q w'=>Fr T w w'/\wpSg P l M T σ'' q w') [f] a w):wpSg P l M T (.m3 i σ j σ' k σ'') a w:=⟨zHG z h,zHG u A,zHG g v⟩
end
end Go.Proofs.YtinfjnndbfahhaaGreatDoor
