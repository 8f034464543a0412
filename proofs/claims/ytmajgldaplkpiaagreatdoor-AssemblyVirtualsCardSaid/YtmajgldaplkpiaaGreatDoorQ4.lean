import Derived.Test.YtmajgldaplkpiaaGreatDoorQ2
import Derived.Maps.AppendAt
namespace Go.Proofs.YtmajgldaplkpiaaGreatDoor
open Go.RowKit Go.Maps
set_option linter.unusedVariables false
set_option maxRecDepth 100000
set_option maxHeartbeats 2000000
def look (ds:List Dev)(n:Int):Option Dev:=ds.find? (fun d=>decide (d.index=n))
theorem zAb {ds:List Dev}{n:Int}:look ds n=none↔∀ d∈ds,d.index≠n:=by
 unfold look;rw[List.find?_eq_none];simp
theorem zAE {ds:List Dev}{n:Int}{d:Dev}(h:look ds n=some d):d∈ds/\d.index=n:=by
 unfold look at h;exact⟨List.mem_of_find?_eq_some h,by simpa using List.find?_some h⟩
theorem zAV : ∀ (ds:List Dev) (n:Int),(look ds n=none/\place ds n=-1)\/∃ (k:Nat) (d:Dev),look ds n=some d/\place ds n=(k:Int)/\ds[k]?=some d
 | [],n=>.inl ⟨rfl,rfl⟩
 | x::t,n=>by
  by_cases hx:x.index=n
  ·exact .inr ⟨0,x,by simp[look,hx],by simp[place,hx],rfl⟩
  ·have e1:look (x::t) n=look t n:=by simp[look,hx]
   rw[e1];rcases zAV t n with⟨h1,h2⟩ | ⟨k,d,h1,h2,h3⟩
   ·exact .inl ⟨h1,by simp[place,hx,h2]⟩
   ·refine .inr ⟨k+1,d,h1,?_,by simpa using h3⟩;have:¬ ((k:Int)<0):=by omega
    simp[place,hx,h2,this]
theorem zAZ {ds:List Dev}{n:Int}:place ds n<0↔look ds n=none:=by
 rcases zAV ds n with⟨h1,h2⟩ | ⟨k,d,h1,h2,h3⟩
 ·simp[h1,h2]
 ·simp only[h1,h2];constructor
  ·intro h;omega
  ·intro h;cases h
theorem zGi {ds:List Dev}{n:Int}{d:Dev}(h:look ds n=some d):devOf ds n=d:=by
 rcases zAV ds n with⟨h1,h2⟩ | ⟨k,e,h1,h2,h3⟩
 ·rw[h]at h1;cases h1
 ·rw[h]at h1;cases h1;unfold devOf;rw[h2,if_neg (by omega),Int.toNat_natCast,h3];rfl
theorem zGh {ds:List Dev}{n:Int}(h:look ds n=none):devOf ds n=Dev.zero:=by
 unfold devOf;rw[if_pos (zAZ.2 h)]
def chainK (ds:List Dev):Nat->Int->List Dev
 | 0,_=>[]
 | k+1,n=>match look ds n with
  | none=>[]
  | some d=>d::chainK ds k d.parent
def chain (ds:List Dev)(n:Int):List Dev:=chainK ds ds.length n
def origin (ds:List Dev)(n:Int):List ByteArray:=((chain ds n).map Dev.orig).reverse
theorem zDg (ds:List Dev):∀ (k:Nat) (n:Int),(chainK ds k n).length<=k
 | 0,_=>by simp[chainK]
 | k+1,n=>by
  unfold chainK;cases look ds n with
  | none=>simp
  | some d=>have:=zDg ds k d.parent;simp only[List.length_cons];omega
theorem zAu (ds:List Dev)(n:Int):(chain ds n).length<=ds.length:=zDg ds _ n
theorem zDf (ds:List Dev):∀ (k:Nat) (n:Int) (d:Dev),d∈chainK ds k n->d∈ds
 | 0,_,d,h=>by simp[chainK]at h
 | k+1,n,d,h=>by
  unfold chainK at h;cases e:look ds n with
  | none=>rw[e]at h;simp at h
  | some x=>
   rw[e]at h;rcases List.mem_cons.1 h with h | h
   ·subst h;exact(zAE e).1
   ·exact zDf ds k _ d h
theorem zEj {ds:List Dev}{n:Int}{d:Dev}(h:d∈chain ds n):d∈ds:=zDf ds _ n d h
theorem zAd {ds:List Dev}{n:Int}(h:look ds n=none)(k:Nat):chainK ds k n=[]:=by
 cases k<;>simp[chainK,h]
inductive Ch (ds:List Dev):Int->List Dev->Prop
 | nil {n:Int} (h:look ds n=none):Ch ds n []
 | cons {n:Int} {d:Dev} {l:List Dev} (h:look ds n=some d) (t:Ch ds d.parent l):Ch ds n (d::l)
theorem Ch.fuel {ds:List Dev}{n:Int}{l:List Dev}(h:Ch ds n l):∀ k,l.length<=k->chainK ds k n=l:=by
 induction h with
 | nil h=>intro k _;exact zAd h k
 | cons h t ih=>
  intro k hk;cases k with
  | zero=>simp at hk
  | succ k=>unfold chainK;rw[h];simp only[List.length_cons]at hk;simp only[ih k (by omega)]
theorem Ch.det {ds:List Dev}{n:Int}{l l':List Dev}(h:Ch ds n l)(h':Ch ds n l'):l=l':=by
 have e1:=h.fuel (max l.length l'.length) (by omega);have e2:=h'.fuel (max l.length l'.length) (by omega);exact e1.symm.trans e2
structure TreeOk (ds:List Dev):Prop where
 nd:(ds.map Dev.index).Nodup
 ix:∀ d∈ds,1<=d.index/\d.index<=1073741824
 pa:∀ (k:Nat) (d:Dev),ds[k]?=some d->d.parent=0\/∃ (j:Nat) (e:Dev),j<k/\ds[j]?=some e/\e.index=d.parent
 nm:∀ d∈ds,OkN d.orig
theorem TreeOk.sz {ds:List Dev}(h:TreeOk ds):∀ d∈ds,d.orig.size<=32:=fun d hd=>(h.nm d hd).1
theorem TreeOk.nil : TreeOk []:=⟨by simp,by simp,by simp,by simp⟩
section
variable {ds:List Dev}
theorem zAK : ∀ {ds:List Dev},(ds.map Dev.index).Nodup->∀ {d:Dev},d∈ds->look ds d.index=some d
 | [],_,d,h=>by simp at h
 | x::t,hn,d,h=>by
  simp only[List.map_cons,List.nodup_cons]at hn;rcases List.mem_cons.1 h with h | h
  ·subst h;simp[look]
  ·have:x.index≠d.index:=by
    intro e;apply hn.1;rw[e];exact List.mem_map_of_mem h
   have h1:=zAK hn.2 h;unfold look at h1 ⊢;simp[this,h1]
theorem TreeOk.lk (h:TreeOk ds){d:Dev}(hd:d∈ds):look ds d.index=some d:=zAK h.nd hd
theorem TreeOk.zero (h:TreeOk ds):look ds 0=none:=zAb.2 fun d hd e=>by have:=(h.ix d hd).1;omega
theorem TreeOk.ch (h:TreeOk ds):∀ (k:Nat) (d:Dev),ds[k]?=some d->∃ l,Ch ds d.index l/\l.length<=k+1:=by
 intro k
 induction k using Nat.strongRecOn with
 | ind k ih=>
  intro d hd;have hm:=List.mem_of_getElem? hd;rcases h.pa k d hd with h0 | ⟨j,e,hj,he,hi⟩
  ·refine⟨[d],.cons (h.lk hm) ?_,by simp⟩;rw[h0];exact .nil h.zero
  ·obtain⟨l,hl,hlen⟩:=ih j hj e he;refine⟨d::l,.cons (h.lk hm) (by rw[<-hi];exact hl),by simp only[List.length_cons];omega⟩
theorem TreeOk.chn (h:TreeOk ds){n:Int}{d:Dev}(hl:look ds n=some d):Ch ds n (chain ds n):=by
 obtain⟨hd,rfl⟩:=zAE hl;obtain⟨k,hk⟩:=List.getElem?_of_mem hd;obtain⟨l,h1,h2⟩:=h.ch k d hk;have hlt:k<ds.length:=(List.getElem?_eq_some_iff.1 hk).1;have e:chain ds d.index=l:=h1.fuel ds.length (by omega);rw[e];exact h1
theorem TreeOk.chn0 (h:TreeOk ds)(n:Int):Ch ds n (chain ds n):=by
 cases e:look ds n with
 | none=>rw[show chain ds n=[]from zAd e _];exact .nil e
 | some d=>exact h.chn e
theorem TreeOk.chain_cons (h:TreeOk ds){n:Int}{d:Dev}(hl:look ds n=some d):chain ds n=d::chain ds d.parent:=by
 exact(h.chn hl).det (.cons hl (h.chn0 _))
theorem TreeOk.chain_none {n:Int}(hl:look ds n=none):chain ds n=[]:=zAd hl _
theorem TreeOk.origin_cons (h:TreeOk ds){n:Int}{d:Dev}(hl:look ds n=some d):origin ds n=origin ds d.parent++[d.orig]:=by
 unfold origin;rw[h.chain_cons hl];simp
theorem TreeOk.origin_none {n:Int}(hl:look ds n=none):origin ds n=[]:=by
 unfold origin;rw[TreeOk.chain_none hl];rfl
end
def insAt (ds:List Dev)(k:Nat)(d:Dev):List Dev:=ds.take k++d::ds.drop k
theorem zx {ds:List Dev}{k:Nat}{d e:Dev}:e∈insAt ds k d↔e=d\/e∈ds:=by
 unfold insAt;have h:e∈ds↔e∈ds.take k\/e∈ds.drop k:=by rw[<-List.mem_append,List.take_append_drop]
 rw[List.mem_append,List.mem_cons,h];constructor
 ·rintro (h | h | h)
  ·exact .inr (.inl h)
  ·exact .inl h
  ·exact .inr (.inr h)
 ·rintro (h | h | h)
  ·exact .inr (.inl h)
  ·exact .inl h
  ·exact .inr (.inr h)
theorem zEb {ds:List Dev}{k:Nat}{d:Dev}:(insAt ds k d).length=ds.length+1:=by
 unfold insAt;have:=congrArg List.length (List.take_append_drop k ds);simp only[List.length_append,List.length_cons]at this ⊢;omega
theorem zCS {ds:List Dev}{k i:Nat}{d:Dev}(hk:k<=ds.length)(hi:i<k):(insAt ds k d)[i]?=ds[i]?:=by
 unfold insAt;rw[List.getElem?_append_left (by simp;omega),List.getElem?_take_of_lt hi]
theorem zIs {ds:List Dev}{k:Nat}{d:Dev}(hk:k<=ds.length):(insAt ds k d)[k]?=some d:=by
 unfold insAt;rw[List.getElem?_append_right (by simp;omega)];simp[Nat.min_eq_left hk]
theorem zFq {ds:List Dev}{k i:Nat}{d:Dev}(hk:k<=ds.length)(hi:k<=i):(insAt ds k d)[i+1]?=ds[i]?:=by
 unfold insAt;rw[List.getElem?_append_right (by simp;omega)];simp only[List.length_take,Nat.min_eq_left hk];rw[show i+1-k=(i-k)+1 from by omega];simp only[List.getElem?_cons_succ,List.getElem?_drop];rw[show k+(i-k)=i from by omega]
theorem TreeOk.insert {ds:List Dev}(h:TreeOk ds){k:Nat}{d:Dev}(hk:k<=ds.length)(hnew:look ds d.index=none)(hi:1<=d.index/\d.index<=1073741824)(hs:OkN d.orig)
  (hp:d.parent=0\/∃ (j:Nat) (e:Dev),j<k/\ds[j]?=some e/\e.index=d.parent):TreeOk (insAt ds k d):=by
 have hno:=zAb.1 hnew;refine⟨?_,?_,?_,?_⟩
 ·unfold insAt;have h1:=h.nd;rw[<-List.take_append_drop k ds,List.map_append]at h1;rw[List.map_append,List.map_cons];have h2:((d::(ds.take k++ds.drop k)).map Dev.index).Nodup:=by
   rw[List.map_cons,List.nodup_cons];refine⟨?_,by rwa [List.map_append]⟩;rw[List.take_append_drop];intro hm;obtain⟨e,he,hee⟩:=List.mem_map.1 hm;exact hno e he hee
  rw[List.map_cons,List.map_append]at h2;exact(List.perm_middle.nodup_iff).2 h2
 ·intro e he;rcases zx.1 he with rfl | he
  ·exact hi
  ·exact h.ix e he
 ·intro i e he;rcases Nat.lt_trichotomy i k with hik | rfl | hik
  ·rw[zCS hk hik]at he;rcases h.pa i e he with h0 | ⟨j,f,hj,hf,hfi⟩
   ·exact .inl h0
   ·exact .inr ⟨j,f,hj,by rw[zCS hk (by omega)];exact hf,hfi⟩
  ·rw[zIs hk]at he;cases he;rcases hp with h0 | ⟨j,f,hj,hf,hfi⟩
   ·exact .inl h0
   ·exact .inr ⟨j,f,hj,by rw[zCS hk hj];exact hf,hfi⟩
  ·obtain⟨i,rfl⟩:∃ m,i=m+1:=⟨i-1,by omega⟩
   rw[zFq hk (by omega)]at he;rcases h.pa i e he with h0 | ⟨j,f,hj,hf,hfi⟩
   ·exact .inl h0
   ·by_cases hjk:j<k
    ·exact .inr ⟨j,f,by omega,by rw[zCS hk hjk];exact hf,hfi⟩
    ·exact .inr ⟨j+1,f,by omega,by rw[zFq hk (by omega)];exact hf,hfi⟩
 ·intro e he;rcases zx.1 he with rfl | he
  ·exact hs
  ·exact h.nm e he
theorem zFn {ds:List Dev}{k:Nat}{d:Dev}(hnd:((insAt ds k d).map Dev.index).Nodup)(hnew:look ds d.index=none)(n:Int):look (insAt ds k d) n=if n=d.index then some d else look ds n:=by
 split
 ·rename_i e;subst e;exact zAK hnd (zx.2 (.inl rfl))
 ·rename_i hne;cases hl:look ds n with
  | none=>
   rw[zAb]at hl ⊢;intro e he;rcases zx.1 he with rfl | he
   ·exact fun h=>hne h.symm
   ·exact hl e he
  | some e=>
   obtain⟨he,rfl⟩:=zAE hl;exact zAK hnd (zx.2 (.inr he))
theorem Ch.ins {ds:List Dev}{k:Nat}{d:Dev}(hT:TreeOk ds)(hnd:((insAt ds k d).map Dev.index).Nodup)(hnew:look ds d.index=none)(hi:1<=d.index){n:Int}{l:List Dev}(h:Ch ds n l)(hn:n≠d.index):Ch (insAt ds k d) n l:=by
 induction h with
 | nil h=>exact .nil (by rw[zFn hnd hnew,if_neg hn];exact h)
 | @cons n e l h t ih=>
  refine .cons (by rw[zFn hnd hnew,if_neg hn];exact h) (ih ?_);obtain⟨he,_⟩:=zAE h;obtain⟨j,hj⟩:=List.getElem?_of_mem he;rcases hT.pa j e hj with h0 | ⟨j',f,_,hf,hfi⟩
  ·rw[h0];omega
  ·rw[<-hfi];exact zAb.1 hnew f (List.mem_of_getElem? hf)
structure TreeWf (ds:List Dev):Prop where
 ok:TreeOk ds
 uo:∀ d∈ds,∀ e∈ds,origin ds d.index=origin ds e.index->d=e
 dp:∀ d∈ds,(origin ds d.index).length<=7
theorem TreeWf.nil : TreeWf []:=⟨TreeOk.nil,by simp,by simp⟩
theorem zFJ {ds:List Dev}(hT:TreeOk ds){n:Int}{l:List Dev}(h:Ch ds n l):chain ds n=l:=(hT.chn0 n).det h
theorem TreeWf.insert {ds:List Dev}(h:TreeWf ds){k:Nat}{d:Dev}(hk:k<=ds.length)(hnew:look ds d.index=none)(hi:1<=d.index/\d.index<=1073741824)(hs:OkN d.orig)(hne:d.parent≠d.index)
  (hp:d.parent=0\/∃ (j:Nat) (e:Dev),j<k/\ds[j]?=some e/\e.index=d.parent) (ho:∀ e∈ds,origin ds e.index≠origin ds d.parent++[d.orig]) (hd:(origin ds d.parent).length<7):
  TreeWf (insAt ds k d)/\(∀ n,n≠d.index->chain (insAt ds k d) n=chain ds n)/\chain (insAt ds k d) d.index=d::chain ds d.parent:=by
 have hT:=h.ok.insert hk hnew hi hs hp;have hold:∀ n,n≠d.index->chain (insAt ds k d) n=chain ds n:=fun n hn=>zFJ hT ((h.ok.chn0 n).ins h.ok hT.nd hnew hi.1 hn)
 have hself:chain (insAt ds k d) d.index=d::chain ds d.parent:=by
  rw[hT.chain_cons (hT.lk (zx.2 (.inl rfl))),hold _ hne]
 have oold:∀ n,n≠d.index->origin (insAt ds k d) n=origin ds n:=fun n hn=>by unfold origin;rw[hold n hn]
 have oself:origin (insAt ds k d) d.index=origin ds d.parent++[d.orig]:=by unfold origin;rw[hself];simp
 have hno:=zAb.1 hnew;refine⟨⟨hT,?_,?_⟩,hold,hself⟩
 ·intro x hx y hy he;rcases zx.1 hx with ex | hx'
  ·rcases zx.1 hy with ey | hy'
   ·rw[ex,ey]
   ·rw[ex,oself,oold _ (hno y hy')]at he;exact absurd he.symm (ho y hy')
  ·rcases zx.1 hy with ey | hy'
   ·rw[ey,oself,oold _ (hno x hx')]at he;exact absurd he (ho x hx')
   ·rw[oold _ (hno x hx'),oold _ (hno y hy')]at he;exact h.uo x hx' y hy' he
 ·intro x hx;rcases zx.1 hx with ex | hx'
  ·rw[ex,oself];simp;omega
  ·rw[oold _ (hno x hx')];exact h.dp x hx'
theorem infoD : (Tryz.prog.info? 34).map (fun i=>(i.zero,i.size,i.bytes))=some (some (.agg #[.int .i64 0,.int .i64 0,.string ByteArray.empty,.string ByteArray.empty,.string ByteArray.empty,.string ByteArray.empty,.string ByteArray.empty,.int .i64 0,.int .i64 0,.slice none 0 0]),10,136):=by kernel_rfl
theorem infoS : (Tryz.prog.info? 9).map (fun i=>(i.zero,i.size,i.bytes))=some (some (.string ByteArray.empty),1,16):=by kernel_rfl
theorem zN {w:World}{base:Nat}{e:TypeId}{size:Nat}{v:Value}{n:Nat}{xs:List Value}(h:w.ownsRow base e size v n xs){b:Nat}(hb:v.ownBlock=some b):From base b:=by
 obtain⟨_,⟨rfl,_⟩ | ⟨g,cap,cur,rfl,hg,_⟩⟩:=h
 ·cases hb
 ·cases hb;exact hg
theorem zG {w:World}{base:Nat}{e:TypeId}{size:Nat}{v:Value}{n:Nat}{xs:List Value}(h:w.ownsRow base e size v n xs):∃ a c,v=.slice a n c:=by
 obtain⟨_,⟨rfl,rfl⟩ | ⟨g,cap,cur,rfl,hg,_⟩⟩:=h
 ·exact⟨_,_,rfl⟩
 ·exact⟨_,_,rfl⟩
theorem zq {w:World}{base base':Nat}{e:TypeId}{size:Nat}{v:Value}{n:Nat}{xs:List Value}(h:w.ownsRow base e size v n xs)(hb:base'<=base):w.ownsRow base' e size v n xs:=by
 obtain⟨h0,h | ⟨g,cap,cur,h,hg,r⟩⟩:=h
 ·exact⟨h0,.inl h⟩
 ·exact⟨h0,.inr ⟨g,cap,cur,h,Nat.le_trans hb hg,r⟩⟩
theorem zU {w:World}{base:Nat}{e:TypeId}{size:Nat}{v:Value}{n:Nat}{xs:List Value}(h:w.ownsRow base e size v n xs){b:Nat}(hb:v.ownBlock=some b):b<w.heap.size:=by
 obtain⟨_,⟨rfl,_⟩ | ⟨g,cap,cur,rfl,hg,hbl,_⟩⟩:=h
 ·cases hb
 ·cases hb;exact zE hbl
theorem zAi {w w1:World}{base:Nat}{e:TypeId}{size:Nat}{v:Value}{n:Nat}{xs:List Value}(h:w.ownsRow base e size v n xs){o:Obj}(hg:(w.alloc o).grownBy w1 v.ownBlock):Fr (From base) w w1:=
 ((Fr.refl _ _).alloc o).step (Fr.of_grown hg) (fun b _ e=>zN h e)
theorem zu {w w1:World}{base:Nat}{e:TypeId}{size:Nat}{v:Value}{n:Nat}{xs:List Value}(h:w.ownsRow base e size v n xs){S:Nat->Prop}(hf:Fr S w w1)(hS:∀ b,base<=b->¬ S b):w1.ownsRow base e size v n xs:=by
 obtain⟨h0,⟨rfl,h2⟩ | ⟨g,cap,cur,rfl,hg,hb,h1,h2,h3,h4⟩⟩:=h
 ·exact⟨h0,.inl ⟨rfl,h2⟩⟩
 ·exact⟨h0,.inr ⟨g,cap,cur,rfl,hg,hf.heap hb (hS g hg),h1,h2,h3,h4⟩⟩
theorem zX (w:World)(xs:Array Value)(t:TypeId){b:Nat}(hb:w.heap.size=b):∀ j u,xs.toList[j]?=some u->(w.alloc (.cells xs t)).cell? ((⟨b,0,none⟩:Addr).add j)=some u:=by
 intro j u hj;subst hb;rw[Addr.add_lit,zB (zD w (.cells xs t))]
 simpa using hj
def flat (l:List Dev):List Value:=l.flatMap (fun d=>d.vals.toList)
theorem zBw (l:List Dev)(d:Dev):flat (l++[d])=flat l++d.vals.toList:=by simp[flat]
theorem zw (l:List Dev):(flat l).length=l.length*10:=by
 induction l with
 | nil=>rfl
 | cons d t ih=>
  have:flat (d::t)=d.vals.toList++flat t:=by simp[flat]
  rw[this,List.length_append,ih];simp[Dev.vals];omega
theorem zEr (d:Dev)(j:Nat)(hj:j<10):d.vals.toList[j]?=some (d.cell j):=by
 unfold Dev.vals
 match j,hj with
 | 0,_=>rfl
 | 1,_=>rfl
 | 2,_=>rfl
 | 3,_=>rfl
 | 4,_=>rfl
 | 5,_=>rfl
 | 6,_=>rfl
 | 7,_=>rfl
 | 8,_=>rfl
 | 9,_=>rfl
theorem zFD : ∀ (l:List Dev) (i:Nat) (d:Dev),l[i]?=some d->∀ j,j<10->(flat l)[i*10+j]?=some (d.cell j)
 | [],i,d,h,j,hj=>by simp at h
 | x::t,0,d,h,j,hj=>by
  simp at h;subst h;have:flat (x::t)=x.vals.toList++flat t:=by simp[flat]
  rw[this,List.getElem?_append_left (by simp[Dev.vals];omega)]
  simpa using zEr x j hj
 | x::t,i+1,d,h,j,hj=>by
  have:flat (x::t)=x.vals.toList++flat t:=by simp[flat]
  rw[this,List.getElem?_append_right (by simp[Dev.vals];omega)];have h1:=zFD t i d (by simpa using h) j hj;rw[show (i+1)*10+j-x.vals.toList.length=i*10+j from by simp[Dev.vals];omega];exact h1
theorem zv (d:Dev):∀ u∈d.vals.toList,u.oneCell'=true:=by
 intro u hu;simp[Dev.vals]at hu;rcases hu with rfl | rfl | rfl | rfl | rfl | rfl | rfl | rfl | rfl | rfl<;>rfl
theorem zAB (l:List Dev):∀ u∈flat l,u.oneCell'=true:=by
 intro u hu;obtain⟨d,hd,hu⟩:=List.mem_flatMap.1 hu;exact zv d u hu
theorem Devs.of_own {w:World}{base:Nat}{e:TypeId}{v:Value}{l:List Dev}(h:w.ownsRow base e 10 v l.length (flat l)):
  ∃ a cap,v=.slice a l.length cap/\Devs w a cap l/\∀ ad,a=some ad->base<=ad.block:=by
 obtain⟨_,⟨rfl,h2⟩ | ⟨g,cap,cur,rfl,hg,hb,h1,h2,h3,h4⟩⟩:=h
 ·have:l=[]:=List.eq_nil_of_length_eq_zero h2;subst this;exact⟨none,0,rfl,Devs.nil w,fun _ e=>by cases e⟩
 ·refine⟨some ⟨g,0,none⟩,cap,rfl,⟨h1,h2,(fun e=>by cases e),?_⟩,fun ad e=>by cases e;exact hg⟩;intro ad e hne;cases e;refine⟨rfl,zE hb,fun i d hi j hj=>?_⟩;rw[zB hb];simp only[Nat.zero_add];have hlt:i<l.length:=(List.getElem?_eq_some_iff.1 hi).1;have e1:(cur.toList.take (l.length*10))[i*10+j]?=(flat l)[i*10+j]?:=by rw[h4]
  rw[List.getElem?_take_of_lt (by omega),zFD l i d hi j hj]at e1;rw[<-Array.getElem?_toList,e1]
structure Strs (w:World)(a:Option Addr)(cap:Nat)(l:List ByteArray):Prop where
 len:l.length<=cap
 max:cap<=maxLen
 isNil:a=none->l=[]/\cap=0
 cell:∀ ad,a=some ad->l≠[]->ad.spot=none/\ad.block<w.heap.size/\∀ i x,l[i]?=some x->w.cell? ⟨ad.block,ad.off+i,none⟩=some (.string x)
theorem Strs.at {w:World}{a:Option Addr}{cap:Nat}{l:List ByteArray}(h:Strs w a cap l){k:Nat}(hk:k<l.length):
  ∃ b off x,a=some ⟨b,off,none⟩/\l[k]?=some x/\w.cell? ⟨b,off+k,none⟩=some (.string x):=by
 cases a with
 | none=>obtain⟨rfl,_⟩:=h.isNil rfl;simp at hk
 | some ad=>
  obtain⟨b,off,sp⟩:=ad;obtain⟨h1,h2,h3⟩:=h.cell _ rfl (by intro e;subst e;simp at hk);simp at h1;subst h1;exact⟨b,off,l[k],rfl,by simp[hk],h3 k _ (by simp[hk])⟩
theorem Strs.lenmax {w:World}{a:Option Addr}{cap:Nat}{l:List ByteArray}(h:Strs w a cap l):l.length<=9223372036854775807:=by
 have h1:=h.len;have h2:=h.max;unfold maxLen at h2;omega
theorem Strs.fr {S:Nat->Prop}{w w':World}{a:Option Addr}{cap:Nat}{l:List ByteArray}(h:Strs w a cap l)(hf:Fr S w w')(hS:∀ ad,a=some ad->l≠[]->¬ S ad.block):Strs w' a cap l:=
 ⟨h.len,h.max,h.isNil,fun ad e hne=>by
  obtain⟨h1,h2,h3⟩:=h.cell ad e hne;exact⟨h1,Nat.lt_of_lt_of_le h2 hf.size,fun i x hi=>hf.cell (h3 i x hi) (hS ad e hne)⟩⟩
theorem Strs.no {S:Nat->Prop}{w w':World}{a:Option Addr}{cap:Nat}{l:List ByteArray}(h:Strs w a cap l)(hf:Fr S w w')(hS:∀ k,¬ S k):Strs w' a cap l:=h.fr hf (fun _ _ _=>hS _)
theorem Strs.nil (w:World):Strs w none 0 []:=⟨by simp,by simp,fun _=>⟨rfl,rfl⟩,fun _ e _=>by cases e⟩
theorem Strs.of_own {w:World}{base:Nat}{e:TypeId}{v:Value}{l:List ByteArray}(h:w.ownsRow base e 1 v l.length (l.map Value.string)):
  ∃ a cap,v=.slice a l.length cap/\Strs w a cap l/\∀ ad,a=some ad->base<=ad.block:=by
 obtain⟨_,⟨rfl,h2⟩ | ⟨g,cap,cur,rfl,hg,hb,h1,h2,h3,h4⟩⟩:=h
 ·have:l=[]:=List.eq_nil_of_length_eq_zero h2;subst this;exact⟨none,0,rfl,Strs.nil w,fun _ e=>by cases e⟩
 ·refine⟨some ⟨g,0,none⟩,cap,rfl,⟨h1,h2,(fun e=>by cases e),?_⟩,fun ad e=>by cases e;exact hg⟩;intro ad e hne;cases e;refine⟨rfl,zE hb,fun i x hi=>?_⟩;rw[zB hb];simp only[Nat.zero_add];have hlt:i<l.length:=(List.getElem?_eq_some_iff.1 hi).1;have e1:(cur.toList.take (l.length*1))[i]?=(l.map Value.string)[i]?:=by rw[h4]
  rw[List.getElem?_take_of_lt (by omega)]at e1;rw[<-Array.getElem?_toList,e1];simp[hi]
theorem zAA (a:Option Addr)(cap:Nat)(ds:List Dev)(n:Int)(w:World)(hl:Devs w a cap ds)(hn:look ds n=none):
  Calls Tryz.prog 21 #[.agg #[.slice a ds.length cap],.int .i64 n] w fun e w'=>e=.returned (.tuple #[.agg Dev.zero.vals,.bool false])/\Fr No w w':=
 (zFZ a cap ds n w hl).mono fun e w' ⟨h1,h2⟩=>⟨by rw[h1,zGh hn,decide_eq_false (by have:=zAZ.2 hn;omega)],h2⟩
theorem zAJ (a:Option Addr)(cap:Nat)(ds:List Dev)(n:Int)(d:Dev)(w:World)(hl:Devs w a cap ds)(hn:look ds n=some d):
  Calls Tryz.prog 21 #[.agg #[.slice a ds.length cap],.int .i64 n] w fun e w'=>e=.returned (.tuple #[.agg d.vals,.bool true])/\Fr No w w':=
 (zFZ a cap ds n w hl).mono fun e w' ⟨h1,h2⟩=>⟨by
  rw[h1,zGi hn,decide_eq_true (by
   have h3:¬ place ds n<0:=fun h=>by rw[zAZ.1 h]at hn;cases hn
   omega)],h2⟩
theorem zC9 {ds:List Dev}{n:Int}{d:Dev}(h:look ds n=some d)(k:Nat):chainK ds (k+1) n=d::chainK ds k d.parent:=by
 rw[chainK,h]
theorem zHH (a:Option Addr)(cap:Nat)(ds:List Dev)(n:Int)(w:World)(hl:Devs w a cap ds)(hb:ds.length<=1000000):
  Calls Tryz.prog 73 #[.agg #[.slice a ds.length cap],.int .i64 n] w fun e w'=>(∃ v,e=.returned v/\w'.ownsRow w.heap.size 34 10 v (chain ds n).length (flat (chain ds n)))/\Fr No w w':=by
 obtain⟨i0,hi,hz0,hz1,hz2⟩:=info_parts infoD;have hx:Fr No w (w.alloc (.cells #[.slice a ds.length cap] 28)):=(Fr.refl _ _).alloc _;have hlx:=hl.no hx (fun _=>id);have hbx:=zD w (.cells #[.slice a ds.length cap] 28);have hm:=hl.lenmax
 go_enter Tryz.func73,Tryz.ntmps73
 go_wp2;generalize hW0:w.alloc (.cells #[.slice a ds.length cap] 28)=W0 at *;have hW1:w.heap.size+1<=W0.heap.size:=by rw[<-hW0];simp
 clear hW0
 go_loopw [1,5] (fun i v wr=>∃ (pre:List Dev) (m:Int) (av:Option Addr) (cv:Nat),pre.length<=ds.length/\i=.int .i64 m/\v=.slice av pre.length cv/\Hid (chain ds n=pre++chainK ds (ds.length-pre.length) m)/\wr.ownsRow (w.heap.size+1) 34 10 (.slice av pre.length cv) pre.length (flat pre)/\Fr (From (w.heap.size+1)) W0 wr) (fun _ v _=>match v with | .slice _ k _=>ds.length-k | _=>0)
 case atStart=>exact⟨[],n,none,0,by simp,rfl,rfl,by unfold Hid chain;simp,World.ownsRow_nil _ _ _ _,Fr.refl _ _⟩
 case round=>
  obtain⟨pre,m,av,cv,hk,rfl,rfl,HC,hown,hfr⟩:=hrel;have hsz:=hfr.size;have hbr:=hfr.heap hbx (by unfold From;omega);have c0:wr.cell? ⟨w.heap.size,0,none⟩=some (.slice a ds.length cap):=zB hbr 0;have hlr:=hlx.fr hfr (fun ad e hne hS=>by have:=(hl.cell ad e hne).2.1;unfold From at hS;omega);by_cases hlt:pre.length<ds.length
  ·cases hlk:look ds m with
   | none=>
    have Hlk:=Lib.hid hlk;clear hlk
    go_wp2_with fail
    refine(zAA a cap ds m _ hlr Hlk.out).mono ?_;rintro e w1 ⟨rfl,hf1⟩;unfold Dev.vals Dev.zero
    go_wp2_with fail
    go_ret;have e:chain ds n=pre:=by rw[HC.out,zAd Hlk.out,List.append_nil]
    rw[e];exact⟨⟨_,rfl,zq ((zu hown hf1 (fun _ _=>id)).alloc _) (by omega)⟩,((hx.step hfr (fun b hb h=>by unfold From at h;omega)).step hf1 (fun _ _ h=>h)).alloc _⟩
   | some d=>
    have Hlk:=Lib.hid hlk;clear hlk
    go_wp2_with fail
    refine(zAJ a cap ds m d _ hlr Hlk.out).mono ?_;rintro e w1 ⟨rfl,hf1⟩;unfold Dev.vals;have hown1:=zu hown hf1 (fun _ _=>id)
    go_wp2_with (at_builtin;refine wpList_append_own _ rfl _ _ 26 rfl (w.heap.size+1) 34 i0 (.agg #[.int .i64 0,.int .i64 0,.string ByteArray.empty,.string ByteArray.empty,.string ByteArray.empty,.string ByteArray.empty,.string ByteArray.empty,.int .i64 0,.int .i64 0,.slice none 0 0]) 10 136 Tryz.underlying26 hi hz0 hz1 hz2 rfl (by decide) _ _ _ rfl ((hown1.alloc _).alloc _) ⟨w1.heap.size+1,0,none⟩ 1 1 d.vals.toList rfl rfl (zX _ d.vals _ (World.size_alloc _ _)) (zv d) (by unfold maxLen;omega) (by omega) (by have:=hf1.size;simp;omega) ?_;intro v' w2 hown2 hgrow2 _;have c1:w2.cell? ⟨w1.heap.size,1,none⟩=some (.int .i64 d.parent):=(Fr.of_grown hgrow2).cell (zB (zL w1 _ _) 1) (fun e=>Nat.lt_irrefl _ (zU hown1 e));obtain⟨av',cv',rfl⟩:=zG hown2)
    go_roundw
    case rel=>
     refine⟨pre++[d],d.parent,av',cv',by simp;omega,rfl,by simp,?_,by rw[List.length_append,zBw];exact hown2,(hfr.step hf1 (fun _ _ h=>h.elim)).step (((Fr.refl (From (w.heap.size+1)) w1).alloc _).step (zAi (hown1.alloc _) hgrow2) (fun _ _ h=>h)) (fun _ _ h=>h)⟩;unfold Hid;rw[HC.out,show ds.length-pre.length=(ds.length-(pre++[d]).length)+1 from by simp;omega,zC9 Hlk.out];simp
    case measure=>simp;omega
  ·have e:chain ds n=pre:=by rw[HC.out,show ds.length-pre.length=0 from by omega];simp[chainK]
   have He:=Lib.hid e;clear e
   go_wp2_with fail
   go_ret;rw[He.out];exact⟨⟨_,rfl,zq hown (by omega)⟩,hx.step hfr (fun b hb h=>by unfold From at h;omega)⟩
theorem zBO (l:List ByteArray):∀ u∈l.map Value.string,u.oneCell'=true:=by
 intro u hu;obtain⟨x,_,rfl⟩:=List.mem_map.1 hu;rfl
theorem zBP (a:Option Addr)(cap:Nat)(ds:List Dev)(n:Int)(w:World)(hl:Devs w a cap ds)(hb:ds.length<=1000000):
  Calls Tryz.prog 35 #[.agg #[.slice a ds.length cap],.int .i64 n] w fun e w'=>(∃ v,e=.returned v/\w'.ownsRow w.heap.size 9 1 v (origin ds n).length ((origin ds n).map Value.string))/\Fr No w w':=by
 obtain⟨i0,hi,hz0,hz1,hz2⟩:=info_parts infoS;have hx:Fr No w (w.alloc (.cells #[.slice a ds.length cap] 28)):=(Fr.refl _ _).alloc _;have hlx:=hl.no hx (fun _=>id);have hol:(origin ds n).length<=1000000:=by unfold origin;simp;have:=zAu ds n;omega
 go_enter Tryz.func35,Tryz.ntmps35
 go_wp2_with fail
 refine(zHH a cap ds n _ hlx hb).mono ?_;rintro e w1 ⟨⟨v,rfl,hown⟩,hf1⟩;have hch:(chain ds n).length<=1000000:=by have:=zAu ds n;omega
 have hw1:w.heap.size+1<=w1.heap.size:=by have:=hf1.size;rwa [World.size_alloc]at this
 obtain⟨ac,cc,rfl,hD,hfresh⟩:=Devs.of_own hown;have horg:Hid (origin ds n=((chain ds n).map Dev.orig).reverse):=rfl;have hfr1:=hx.step hf1 (fun _ _ h=>h);clear hown hx hlx;generalize chain ds n=c at *
 go_wp2_with fail
 go_loopw [5,7] (fun v i wr=>∃ (k:Nat) (av:Option Addr) (cv:Nat),k<=c.length/\i=.int .i64 ((k:Int)-1)/\v=.slice av (c.length-k) cv/\wr.ownsRow w1.heap.size 9 1 (.slice av (c.length-k) cv) (c.length-k) ((((c.drop k).map Dev.orig).reverse).map Value.string)/\Fr (From w1.heap.size) w1 wr) (fun _ i _=>(intOf i+1).toNat)
 case atStart=>exact⟨c.length,none,0,by omega,rfl,by simp,by simpa using World.ownsRow_nil _ _ _ _,Fr.refl _ _⟩
 case round=>
  obtain⟨k,av,cv,hk,rfl,rfl,hown,hfr⟩:=hrel;have hsz:=hfr.size;cases k with
  | zero=>
   go_wp2_with fail
   go_ret;rw[horg.out];simp only[List.drop_zero,Nat.sub_zero]at hown;exact⟨⟨_,rfl,by rw[List.length_reverse,List.length_map];exact zq hown (by omega)⟩,hfr1.step hfr (fun b hb h=>by unfold From at h;omega)⟩
  | succ j=>
   have hDr:=hD.fr hfr (fun ad e hne hS=>by have:=(hD.cell ad e hne).2.1;unfold From at hS;omega);obtain⟨b,off,d,rfl,hd,hc⟩:=hDr.dev (by omega:j<c.length);have c3:=hc.c3;have Hd:=Lib.hid hd;clear hd hc;rw[show ((j+1:Nat):Int)-1=(j:Int)from by omega]
   go_wp2_with (at_builtin;refine wpList_append_own _ rfl _ _ 44 rfl w1.heap.size 9 i0 (.string ByteArray.empty) 1 16 Tryz.underlying44 hi hz0 hz1 hz2 rfl (by decide) _ _ _ rfl (hown.alloc _) ⟨wr.heap.size,0,none⟩ 1 1 [.string d.orig] rfl rfl (cell_one_new _ _ _) (zBO [d.orig]) (by unfold maxLen;omega) (by omega) (by simp;omega) ?_;intro v' w2 hown2 hgrow2 _;obtain⟨av',cv',rfl⟩:=zG hown2)
   go_roundw
   case rel=>
    have e:c.length-(j+1)+1=c.length-j:=by omega
    rw[e]at hown2 ⊢;refine⟨j,av',cv',by omega,rfl,rfl,?_,hfr.step (zAi hown hgrow2) (fun _ _ h=>h)⟩;rw[List.drop_eq_getElem_cons (by omega:j<c.length)];have e2:c[j]=d:=by have:=Hd.out;rw[List.getElem?_eq_getElem (by omega)]at this;exact Option.some.inj this
    rw[e2]
    simpa using hown2
   case measure=>simp[intOf]
end Go.Proofs.YtmajgldaplkpiaaGreatDoor
