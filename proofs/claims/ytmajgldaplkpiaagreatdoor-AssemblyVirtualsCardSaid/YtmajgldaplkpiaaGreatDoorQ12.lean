import Derived.Test.YtmajgldaplkpiaaGreatDoorQ4
import Derived.Test.YtmajgldaplkpiaaGreatDoorShelf
import Derived.Maps.StringElems
import Derived.OwnWalkIn
import Derived.Shelf.AbstractIn
import Derived.DeepKeys4
import Derived.Maps.RangeWalk
import Derived.Maps.OwnRows
import Derived.Maps.GroupsBeside
namespace Go.Proofs.YtmajgldaplkpiaaGreatDoor
open Go.RowKit Go.Maps Go.Sort Go.Shelf
set_option linter.unusedVariables false
set_option maxRecDepth 100000
set_option maxHeartbeats 1000000
def kb (x:ByteArray):List UInt8:=x.data.toList
def bk (x:List UInt8):ByteArray:=⟨x.toArray⟩
theorem zEB (x:ByteArray):bk (kb x)=x:=by unfold bk kb;simp
theorem zGd (x:List UInt8):kb (bk x)=x:=by unfold bk kb;simp
theorem zEZ {x y:ByteArray}(h:kb x=kb y):x=y:=by rw[<-zEB x,h,zEB]
def heldV (v:Value):Option (DataW Value×List MemPlace):=some (.held v,[])
def VMap (w:World)(mb:Nat)(g:List UInt8->Option Value)(N:Nat):Prop:=
 ∃ (D:DataW Value) (n:Nat),n<=N/\w.ownsMap Tryz.prog 9 heldV mb n D/\(∀ x,has D (.string x)=(g x).isSome)/\∀ x v,g x=some v->∀ z,D.atKey (.string x) z=.held v
theorem VMap.lt {w:World}{mb:Nat}{g:List UInt8->Option Value}{N:Nat}(h:VMap w mb g N):mb<w.heap.size:=by obtain⟨D,n,_,ho,_⟩:=h;exact ho.lt
theorem VMap.fr {S:Nat->Prop}{w w':World}{mb:Nat}{g:List UInt8->Option Value}{N:Nat}(h:VMap w mb g N)(hf:Fr S w w')(hS:¬ S mb):VMap w' mb g N:=by
 obtain⟨D,n,hn,ho,r⟩:=h;exact⟨D,n,hn,hf.ownsMap ho hS,r⟩
theorem VMap.made (w:World):VMap (w.alloc (.map #[] 0)) w.heap.size (fun _=>none) 0:=⟨.map [],0,Nat.le_refl _,World.ownsMap_made _ _ _ _,fun _=>rfl,fun _ _ h=>by cases h⟩
theorem VMap.mono {w:World}{mb:Nat}{g:List UInt8->Option Value}{N M:Nat}(h:VMap w mb g N)(hN:N<=M):VMap w mb g M:=by
 obtain⟨D,n,hn,r⟩:=h;exact⟨D,n,by omega,r⟩
theorem lawS : Keyed Tryz.prog 9:=string_keyed Tryz.underlying9
theorem keyS {s:ByteArray}(hs:s.size<=maxLen):keyOf Tryz.prog 9 (.string s)=some (.string (kb s)):=Go.WideMaps.keyOf_string_mk Tryz.underlying9 hs
theorem isKeyS (x:List UInt8):WideAt.IsKeyLit (.string x):=trivial
theorem zBM {w:World}{ops:Array Oper}{rest:List Oper}{o:Oper}{a:Act}{Q:Exit->Act->World->Prop}(hg:o.guard=none)(m x:Operand)(t e:TypeId)(z:Value)(hz:(zeroValue e).run Tryz.prog w=.ok z w)(hop:o.op=Op.lookup t m x true)(ht:Tryz.prog.underlying t=some (.map 9 e))
  (mb:Nat) (g:List UInt8->Option Value) (N:Nat) (k:ByteArray) (hk:k.size<=maxLen) (hm:a.eval m=.map (some mb)) (hown:VMap w mb g N) (hx:a.eval x=.string k)
  (v:Value) (hv:(g (kb k)).getD z=v) (b:Bool) (hb:(g (kb k)).isSome=b)
  (hK:wpList Tryz.prog ops Q rest (a.put o.dst (.tuple #[v,.bool b])) w):wpList Tryz.prog ops Q (o::rest) a w:=by
 obtain⟨D,n,_,ho,h1,h2⟩:=hown;refine wpList_lookup_own_ok w hg m x t hop 9 e lawS ht heldV hz (.held z) [] rfl mb n D hm ho _ _ hx (keyS hk) (fun v1 ps hv1=>?_);simp only[heldV,Option.some.injEq,Prod.mk.injEq]at hv1;have e1:=hv1.1;have hv':=hv;have e:v1=(g (kb k)).getD z:=by
  rcases hgk:g (kb k)with _ | v'
  ·have hh:=h1 (kb k);rw[hgk]at hh;rw[atKey_of_not_has hh]at e1
   simpa using e1
  ·rw[h2 _ _ hgk]at e1
   simpa using e1
 rw[h1,e,hv',hb];exact hK
theorem zJX {w:World}{ops:Array Oper}{rest:List Oper}{o:Oper}{a:Act}{Q:Exit->Act->World->Prop}(hg:o.guard=none)(m x:Operand)(t e:TypeId)(z:Value)(hz:(zeroValue e).run Tryz.prog w=.ok z w)(hop:o.op=Op.lookup t m x false)(ht:Tryz.prog.underlying t=some (.map 9 e))
  (mb:Nat) (g:List UInt8->Option Value) (N:Nat) (k:ByteArray) (hk:k.size<=maxLen) (hm:a.eval m=.map (some mb)) (hown:VMap w mb g N) (hx:a.eval x=.string k)
  (u:Value) (hu:(g (kb k)).getD z=u)
  (hK:wpList Tryz.prog ops Q rest (a.put o.dst u) w):wpList Tryz.prog ops Q (o::rest) a w:=by
 obtain⟨D,n,_,ho,h1,h2⟩:=hown;refine wpList_plain hg fun K' hK'=>?_
 obtain⟨v,ps,hrun,hv⟩:=ho.lookup lawS ht hz (zd:=.held z) (zp:=[]) rfl (keyS hk);simp only[heldV,Option.some.injEq,Prod.mk.injEq]at hv;have e1:=hv.1;have e:v=(g (kb k)).getD z:=by
  rcases hgk:g (kb k)with _ | v'
  ·have hh:=h1 (kb k);rw[hgk]at hh;rw[atKey_of_not_has hh]at e1
   simpa using e1
  ·rw[h2 _ _ hgk]at e1
   simpa using e1
 unfold Oper.wp;simp[execOp,hop,hm,hx,hrun,Result.andThen];rw[e,hu];exact hK' _ _ hK
def updS (g:List UInt8->Option Value)(x:List UInt8)(v:Value):List UInt8->Option Value:=fun y=>if y=x then some v else g y
theorem VMap.put {w w1:World}{mb:Nat}{D:DataW Value}{n N:Nat}{g:List UInt8->Option Value}(hn:n<=N)(ho:w.ownsMap Tryz.prog 9 heldV mb n D)(h1:∀ x,has D (.string x)=(g x).isSome)(h2:∀ x v,g x=some v->∀ z,D.atKey (.string x) z=.held v)
  (x:List UInt8) (v:Value) (ho1:w1.ownsMap Tryz.prog 9 heldV mb (n+1) (D.put (.string x) (.held v))):VMap w1 mb (updS g x v) (N+1):=by
 refine⟨_,n+1,by omega,ho1,fun y=>?_,fun y u hu z=>?_⟩
 ·unfold updS;split
  ·rename_i e;subst e;rw[has_put_same ho.isMap (isKeyS _) _];rfl
  ·rename_i e;rw[has_put_other (by intro e';exact e (by simpa using e'))];exact h1 y
 ·unfold updS at hu;split at hu
  ·rename_i e;subst e;cases hu;rw[atKey_put_same ho.isMap (isKeyS _) _ _]
  ·rename_i e;rw[atKey_put_other (by intro e';exact e (by simpa using e'))];exact h2 y u hu z
theorem zBZ {w:World}{ops:Array Oper}{rest:List Oper}{o:Oper}{a:Act}{Q:Exit->Act->World->Prop}(hg:o.guard=none)(m x v:Operand)(t e:TypeId)(hop:o.op=Op.mapUpdate t m x v)(ht:Tryz.prog.underlying t=some (.map 9 e))
  (mb:Nat) (g:List UInt8->Option Value) (N:Nat) (hN:N<maxLen) (k:ByteArray) (hk:k.size<=maxLen) (u:Value) (hm:a.eval m=.map (some mb)) (hown:VMap w mb g N) (hx:a.eval x=.string k) (hv:a.eval v=u)
  (hK:∀ w',VMap w' mb (updS g (kb k) u) (N+1)->Fr (Is mb) w w'->wpList Tryz.prog ops Q rest (a.put o.dst undef) w'):wpList Tryz.prog ops Q (o::rest) a w:=by
 obtain⟨D,n,hn,ho,h1,h2⟩:=hown;exact wpList_mapUpdate_own w hg m x v t hop 9 e lawS ht heldV mb n D hm ho (by omega) _ _ _ hx hv (keyS hk) (.held u) [] rfl (fun w' h h'=>hK w' (VMap.put hn ho h1 h2 _ _ h) (Fr.of_grown_some h'))
def leS : List UInt8->List UInt8->Bool:=fun x y=>decide (x<=y)
def AscS (l:List (List UInt8)):Prop:=l.Pairwise (fun x y=>leS x y=true/\x≠y)
theorem zEY {x y:List UInt8}(h:leS x y=true)(h':leS y x=true):x=y:=by
 unfold leS at *;simp only[decide_eq_true_eq]at *;exact List.le_antisymm h h'
theorem zHe {x y z:List UInt8}(h:leS x y=true)(h':leS y z=true):leS x z=true:=by
 unfold leS at *;simp only[decide_eq_true_eq]at *;exact List.le_trans h h'
theorem zHf (x y:List UInt8):(leS x y||leS y x)=true:=by
 unfold leS;simp only[Bool.or_eq_true,decide_eq_true_eq];exact List.le_total x y
theorem AscS.ext : ∀ {l l':List (List UInt8)},AscS l->AscS l'->(∀ x,x∈l↔x∈l')->l=l'
 | [],[],_,_,_=>rfl
 | [],y::t,_,_,h=>by have:=(h y).2 (by simp);simp at this
 | x::s,[],_,_,h=>by have:=(h x).1 (by simp);simp at this
 | x::s,y::t,h1,h2,h=>by
  have a1:=List.pairwise_cons.1 h1;have a2:=List.pairwise_cons.1 h2;have hx:=(h x).1 (by simp);have hy:=(h y).2 (by simp);have e:x=y:=by
   rcases List.mem_cons.1 hx with h3 | h3
   ·exact h3
   ·rcases List.mem_cons.1 hy with h4 | h4
    ·exact h4.symm
    ·exact zEY (a1.1 y h4).1 (a2.1 x h3).1
  subst e;refine congrArg _ (AscS.ext a1.2 a2.2 fun z=>?_);constructor
  ·intro hz;rcases List.mem_cons.1 ((h z).1 (by simp[hz]))with h3 | h3
   ·subst h3;exact absurd rfl (a1.1 z hz).2
   ·exact h3
  ·intro hz;rcases List.mem_cons.1 ((h z).2 (by simp[hz]))with h3 | h3
   ·subst h3;exact absurd rfl (a2.1 z hz).2
   ·exact h3
theorem zDD {l:List (List UInt8)}(h:l.Nodup):AscS (l.mergeSort leS):=by
 have h1:=List.pairwise_mergeSort (le:=leS) (fun _ _ _ h h2=>zHe h h2) (fun a b=>zHf a b) l;have h2:(l.mergeSort leS).Nodup:=(List.mergeSort_perm l _).nodup_iff.2 h;exact(h1.and h2).imp (fun h=>h)
theorem zCv {H:Type}{P:Program}{k:TypeId}{R:Value->Option (DataW H×List MemPlace)}{w:World}{b n:Nat}{D:DataW H}(h:w.ownsMap P k R b n D)(hk:P.underlying k=some .string)(x:List UInt8):
  x∈strKeys D↔has D (.string x)=true:=by
 obtain⟨es,rfl,hko⟩:=h.keysOf;rw[has_eq,List.any_eq_true];show x∈es.map (fun p=>Go.strOf p.1)↔_
 rw[List.mem_map];constructor
 ·rintro ⟨p,hp,rfl⟩;obtain⟨v,hv⟩:=hko p hp;obtain⟨y,_,hy,_⟩:=Maps.keyOf_str hk hv;exact⟨p,hp,by rw[hy];simp[Lit.sameKey,Go.strOf]⟩
 ·rintro ⟨p,hp,hs⟩;obtain⟨v,hv⟩:=hko p hp;obtain⟨y,_,hy,_⟩:=Maps.keyOf_str hk hv;rw[hy]at hs;exact⟨p,hp,by rw[hy];simpa [Lit.sameKey,Go.strOf]using hs⟩
theorem zBr {H:Type}{P:Program}{k:TypeId}{R:Value->Option (DataW H×List MemPlace)}{w:World}{b n:Nat}{D:DataW H}(h:w.ownsMap P k R b n D)(K:Keyed P k)(hk:P.underlying k=some .string):
  (strKeys D).Nodup:=by
 obtain⟨es,rfl,hko⟩:=h.keysOf;obtain⟨es',e,hp⟩:=h.tidy K;obtain rfl:es=es':=by simpa using e
 show (es.map fun p=>Go.strOf p.1).Nodup
 refine List.pairwise_map.2 (hp.imp_of_mem fun {p q} hp' hq' hne e=>hne ?_);obtain⟨v,hv⟩:=hko p hp';obtain⟨a,_,ha,_⟩:=Maps.keyOf_str hk hv;obtain⟨v',hv'⟩:=hko q hq';obtain⟨b,_,hb,_⟩:=Maps.keyOf_str hk hv';rw[ha,hb]at e ⊢;exact congrArg _ e
theorem zCe {H:Type}(D:DataW H):(strKeys D).length<=Maps.size D:=by
 cases D<;>simp[strKeys,Maps.size]
theorem sortsS (m:Nat):AnyZ.SortsIn Tryz.prog Tryz.sortedS_ren Fence.wide m:=
 ⟨fun blk off cap ss W hH hblk hsz=>callsIn_wide.2 (AnyM.slices_Sort_string Tryz.sortS blk off cap ss W hH hblk hsz),
  fun p cap W=>callsIn_wide.2 (AnyM.slices_Sort_string_none Tryz.sortS p cap W)⟩
theorem zKt (mb:Option Nat)(w:World):Calls Tryz.prog 265 #[.map mb] w fun e w'=>e=.returned (.func (.func 304) #[] #[.pointer (some ⟨w.heap.size,0,none⟩)])/\w'=w.alloc (.cells #[.map mb] 316):=
 (callsIn_wide (n:=5)).1 (AnyZ.keys_in Tryz.keysM Fence.wide 5 trivial rfl mb w)
theorem zIk (mb Bm:Nat)(g:List UInt8->Option Value)(N:Nat)(w:World)(hs:VMap w mb g N)(hN:N<=1099511627776)(hB:w.cell? ⟨Bm,0,none⟩=some (.map (some mb)))(hBl:Bm<w.heap.size):
  Calls Tryz.prog 264 #[.func (.func 304) #[] #[.pointer (some ⟨Bm,0,none⟩)]] w fun e w'=>
   (∃ a cap ids,e=.returned (.slice a ids.length cap)/\Strs w' a cap ids/\AscS (ids.map kb)/\(∀ x:ByteArray,x∈ids↔(g (kb x)).isSome=true)/\ids.length<=N/\∀ ad,a=some ad->w.heap.size<=ad.block)/\Fr No w w':=by
 obtain⟨D,n,hn,hown,hf,_⟩:=hs;have hsz:=hown.size_le;have hmax:Maps.size D<=maxLen:=by unfold maxLen;omega
 have hbytes:Maps.size D*16<=140737488355328:=by omega
 have hmem:=zCv hown Tryz.underlying9;have hnd:=zBr hown lawS Tryz.underlying9;have hlen:=zCe D;have hseq:SeqGives Fence.wide 2 Tryz.prog 304 #[.pointer (some ⟨Bm,0,none⟩)] encStr (fun ss=>ss.Perm (strKeys D)) (Maps.size D) w:=
  AnyZ.keys_gives (ρ:=Tryz.keysM_ren) { Tryz.keysM with } Fence.wide _ trivial rfl (by omega) Bm mb n D _ hBl hB hown
 have cS:=AnyZ.sorted_in Tryz.sortedS Fence.wide 5 trivial trivial trivial trivial rfl (by omega) (sortsS _) (enters_of Tryz.func303 (by kernel_rfl) rfl) 304 #[.pointer (some ⟨Bm,0,none⟩)] trivial (enters_of Tryz.func304 (by kernel_rfl) rfl) _ _ hmax hbytes _ hseq;refine((callsIn_wide (n:=5)).1 cS).mono ?_;rintro e w' ⟨v,ss,rfl,hperm,hrow,_,hb⟩;have hp:(ss.mergeSort (fun x y=>decide (x<=y))).Perm (strKeys D):=(List.mergeSort_perm ss _).trans hperm;obtain⟨L,hL⟩:∃ L,L=(ss.mergeSort (fun x y=>decide (x<=y))):=⟨_,rfl⟩
 have hl:(L.map bk).length=ss.length:=by rw[hL];simp
 have e1:L.map encStr=(L.map bk).map Value.string:=by rw[List.map_map];rfl
 rw[<-hL]at hp hrow;rw[<-hl,e1]at hrow;obtain⟨a,cap,rfl,h1,h2⟩:=Strs.of_own hrow;have e2:(L.map bk).map kb=L:=by
  rw[List.map_map];have:kb∘bk=id:=by funext x;exact zGd x
  rw[this,List.map_id]
 refine⟨⟨a,cap,L.map bk,rfl,h1,?_,fun x=>?_,?_,h2⟩,Fr.of_below_size hb⟩
 ·rw[e2,hL];exact zDD (hperm.nodup_iff.2 hnd)
 ·rw[<-hf,<-hmem,<-hp.mem_iff];constructor
  ·intro h;obtain⟨y,hy,rfl⟩:=List.mem_map.1 h
   rwa [zGd]
  ·intro h;exact List.mem_map.2 ⟨_,h,zEB x⟩
 ·rw[List.length_map,hp.length_eq];omega
theorem zFo : laidOutB Tryz.prog=true:=by kernel_rfl
theorem rowPl : (311:TypeId)<Tryz.prog.types.size:=of_decide_eq_true (by kernel_rfl)
theorem widePl : (match Tryz.prog.underlying 311 with | some (.array _ _) | some (.struct _)=>true | _=>false)=true:=by kernel_rfl
theorem lawP : Keyed Tryz.prog 311:=Keyed.of_law (deep_law_laid zFo (m:=3) (by omega) rowPl (by kernel_rfl) widePl)
theorem typePl : Tryz.prog.keyType 311=true:=by kernel_rfl
theorem zHx : Tryz.prog.cellsOf 311=2:=by kernel_rfl
theorem zD8 : Tryz.prog.cellsOf 9=1:=by kernel_rfl
theorem zIx : Tryz.prog.cellsOf 3=1:=by kernel_rfl
theorem sizePl : ∃ n,Tryz.prog.types.size=n+1:=⟨Tryz.prog.types.size-1,by have:0<Tryz.prog.types.size:=of_decide_eq_true (by kernel_rfl);omega⟩
theorem litsPl (d:Nat)(v0 v1:Value):Tryz.prog.keyLits (d+2) 311 [v0,v1]=(Tryz.prog.keyLits (d+1) 9 [v0]).bind fun a=>(Tryz.prog.keyLits (d+1) 3 [v1]).map fun b=>a++b:=by
 rw[Program.keyLits.eq_def];simp only[Tryz.underlying311,zHx];simp[zD8,zIx];cases Tryz.prog.keyLits (d+1) 9 [v0]<;>cases Tryz.prog.keyLits (d+1) 3 [v1]<;>simp
theorem zDx (d:Nat)(v:Value)(ls:List Lit):Tryz.prog.keyLits (d+1) 9 [v]=some ls↔∃ s,v=.string s/\s.size<=maxLen/\ls=[.string s.data.toList]:=by
 rw[Program.keyLits.eq_def];simp only[Tryz.underlying9];cases v<;>simp;intro _;exact eq_comm
theorem zHc (d:Nat)(v:Value)(ls:List Lit):Tryz.prog.keyLits (d+1) 3 [v]=some ls↔∃ n,v=.int .i64 n/\(Lit.int .i64 n).wf=true/\ls=[.int .i64 n]:=by
 rw[Program.keyLits.eq_def];simp only[Tryz.underlying3];cases v<;>simp;rename_i q n;constructor
 ·rintro ⟨⟨rfl,h⟩,rfl⟩;exact⟨n,⟨rfl,rfl⟩,h,rfl⟩
 ·rintro ⟨n',⟨rfl,rfl⟩,h,rfl⟩;exact⟨⟨rfl,h⟩,rfl⟩
def plL (x:ByteArray×Int):Lit:=.string (keyBytes [.string x.1.data.toList,.int .i64 x.2])
theorem zFu (xs:Array Value):(Value.agg xs).formed Tryz.prog 311=(xs.size==2):=by
 simp[Value.formed,Tryz.underlying311,zHx]
theorem keyP {s:ByteArray}{n:Int}(hs:s.size<=maxLen)(hn:(Lit.int .i64 n).wf=true):keyOf Tryz.prog 311 (.agg #[.string s,.int .i64 n])=some (plL (s,n)):=by
 obtain⟨d,hd⟩:=sizePl;unfold keyOf;simp only[Tryz.underlying311,typePl,zFu];rw[hd];have h1:=(zDx d (.string s) _).2 ⟨s,rfl,hs,rfl⟩;have h2:=(zHc d (.int .i64 n) _).2 ⟨n,rfl,hn,rfl⟩;have h3:=litsPl d (.string s) (.int .i64 n);rw[h1,h2]at h3;simp[Value.cells,h3,plL]
theorem zFp {key:Value}{kl:Lit}(h:keyOf Tryz.prog 311 key=some kl):∃ s n,key=.agg #[.string s,.int .i64 n]/\s.size<=maxLen/\(Lit.int .i64 n).wf=true:=by
 obtain⟨d,hd⟩:=sizePl;unfold keyOf at h;simp only[Tryz.underlying311,typePl]at h;rw[hd]at h;split at h
 ·rename_i hf;simp only[Bool.true_and]at hf;cases key with
  | agg xs=>
   rw[zFu,beq_iff_eq]at hf;obtain⟨xl⟩:=xs
   match xl,hf with
   | [v0,v1],_=>
    have h3:=litsPl d v0 v1;simp only[Value.cells]at h;rcases h0:Tryz.prog.keyLits (d+1) 9 [v0]with _ | a
    ·rw[h0]at h3;simp[h3]at h
    ·rcases h1:Tryz.prog.keyLits (d+1) 3 [v1]with _ | b
     ·rw[h0,h1]at h3;simp[h3]at h
     ·obtain⟨s,rfl,hs,_⟩:=(zDx d v0 a).1 h0;obtain⟨n,rfl,hn,_⟩:=(zHc d v1 b).1 h1;exact⟨s,n,rfl,hs,hn⟩
  | _=>simp[Value.formed,Tryz.underlying311]at hf
 ·cases h
theorem zE1 {x y:ByteArray×Int}(hx:x.1.size<=maxLen)(hx2:(Lit.int .i64 x.2).wf=true)(hy:y.1.size<=maxLen)(hy2:(Lit.int .i64 y.2).wf=true)(h:plL x=plL y):x=y:=by
 have h1:=keyP hx hx2;have h2:=keyP hy hy2;rw[h]at h1;have h3:=lawP.inj h1 h2;simp at h3;obtain⟨a,b⟩:=x;obtain⟨c,d⟩:=y;simp only at h3;rw[h3.1,h3.2]
def PMap (w:World)(mb:Nat)(g:ByteArray×Int->Option Value)(N:Nat):Prop:=
 ∃ (D:DataW Value) (n:Nat),n<=N/\w.ownsMap Tryz.prog 311 heldV mb n D/\∀ x:ByteArray×Int,x.1.size<=maxLen->(Lit.int .i64 x.2).wf=true->has D (plL x)=(g x).isSome/\∀ v,g x=some v->∀ z,D.atKey (plL x) z=.held v
theorem PMap.lt {w:World}{mb:Nat}{g:ByteArray×Int->Option Value}{N:Nat}(h:PMap w mb g N):mb<w.heap.size:=by obtain⟨D,n,_,ho,_⟩:=h;exact ho.lt
theorem PMap.fr {S:Nat->Prop}{w w':World}{mb:Nat}{g:ByteArray×Int->Option Value}{N:Nat}(h:PMap w mb g N)(hf:Fr S w w')(hS:¬ S mb):PMap w' mb g N:=by
 obtain⟨D,n,hn,ho,r⟩:=h;exact⟨D,n,hn,hf.ownsMap ho hS,r⟩
theorem PMap.made (w:World):PMap (w.alloc (.map #[] 0)) w.heap.size (fun _=>none) 0:=⟨.map [],0,Nat.le_refl _,World.ownsMap_made _ _ _ _,fun _ _ _=>⟨rfl,fun _ h=>by cases h⟩⟩
theorem PMap.mono {w:World}{mb:Nat}{g:ByteArray×Int->Option Value}{N M:Nat}(h:PMap w mb g N)(hN:N<=M):PMap w mb g M:=by
 obtain⟨D,n,hn,r⟩:=h;exact⟨D,n,by omega,r⟩
theorem zD2 {D:DataW Value}{kl:Lit}{z v:Value}{o:Option Value}{ps:List MemPlace}(h1:has D kl=o.isSome)(h2:∀ v,o=some v->∀ z,D.atKey kl z=.held v)(hv:heldV v=some (D.atKey kl (.held z),ps)):v=o.getD z:=by
 simp only[heldV,Option.some.injEq,Prod.mk.injEq]at hv;have e1:=hv.1;rcases o with _ | v'
 ·rw[atKey_of_not_has h1]at e1
  simpa using e1
 ·rw[h2 _ rfl]at e1
  simpa using e1
theorem PMap.look {w:World}{mb:Nat}{g:ByteArray×Int->Option Value}{N:Nat}(h:PMap w mb g N){t e:TypeId}{z:Value}(hz:(zeroValue e).run Tryz.prog w=.ok z w)(ht:Tryz.prog.underlying t=some (.map 311 e))
  {s:ByteArray} {n:Int} (hs:s.size<=maxLen) (hn:(Lit.int .i64 n).wf=true):(Instr.lookup t (.map (some mb)) (.agg #[.string s,.int .i64 n]) false).run Tryz.prog w=.ok ((g (s,n)).getD z) w:=by
 obtain⟨D,m,_,ho,hh⟩:=h;obtain⟨h1,h2⟩:=hh (s,n) hs hn;obtain⟨v,ps,hrun,hv⟩:=ho.lookup lawP ht hz (zd:=.held z) (zp:=[]) rfl (keyP hs hn);rw[hrun,zD2 h1 h2 hv]
theorem zDR {w:World}{ops:Array Oper}{rest:List Oper}{o:Oper}{a:Act}{Q:Exit->Act->World->Prop}(hg:o.guard=none)(m x:Operand)(t e:TypeId)(z:Value)(hz:(zeroValue e).run Tryz.prog w=.ok z w)(hop:o.op=Op.lookup t m x true)(ht:Tryz.prog.underlying t=some (.map 311 e))
  (mb:Nat) (g:ByteArray×Int->Option Value) (N:Nat) (s:ByteArray) (n:Int) (hs:s.size<=maxLen) (hn:(Lit.int .i64 n).wf=true) (hm:a.eval m=.map (some mb)) (hown:PMap w mb g N) (hx:a.eval x=.agg #[.string s,.int .i64 n])
  (v:Value) (hv:(g (s,n)).getD z=v) (b:Bool) (hb:(g (s,n)).isSome=b)
  (hK:wpList Tryz.prog ops Q rest (a.put o.dst (.tuple #[v,.bool b])) w):wpList Tryz.prog ops Q (o::rest) a w:=by
 obtain⟨D,k,_,ho,hh⟩:=hown;obtain⟨h1,h2⟩:=hh (s,n) hs hn;refine wpList_lookup_own_ok w hg m x t hop 311 e lawP ht heldV hz (.held z) [] rfl mb k D hm ho _ _ hx (keyP hs hn) (fun v1 ps hv1=>?_);rw[h1,zD2 h1 h2 hv1,hv,hb];exact hK
theorem zFA (x:ByteArray×Int):WideAt.IsKeyLit (plL x):=trivial
def updP (g:ByteArray×Int->Option Value)(x:ByteArray×Int)(v:Value):ByteArray×Int->Option Value:=fun y=>if y=x then some v else g y
theorem zCa {w:World}{ops:Array Oper}{rest:List Oper}{o:Oper}{a:Act}{Q:Exit->Act->World->Prop}(hg:o.guard=none)(m x v:Operand)(t e:TypeId)(hop:o.op=Op.mapUpdate t m x v)(ht:Tryz.prog.underlying t=some (.map 311 e))
  (mb:Nat) (g:ByteArray×Int->Option Value) (N:Nat) (hN:N<maxLen) (s:ByteArray) (n:Int) (hs:s.size<=maxLen) (hn:(Lit.int .i64 n).wf=true) (u:Value) (hm:a.eval m=.map (some mb)) (hown:PMap w mb g N) (hx:a.eval x=.agg #[.string s,.int .i64 n]) (hv:a.eval v=u)
  (hK:∀ w',PMap w' mb (updP g (s,n) u) (N+1)->Fr (Is mb) w w'->wpList Tryz.prog ops Q rest (a.put o.dst undef) w'):wpList Tryz.prog ops Q (o::rest) a w:=by
 obtain⟨D,k,hk,ho,hh⟩:=hown;refine wpList_mapUpdate_own w hg m x v t hop 311 e lawP ht heldV mb k D hm ho (by omega) _ _ _ hx hv (keyP hs hn) (.held u) [] rfl (fun w' h h'=>hK w' ⟨_,k+1,by omega,h,fun y hy hy2=>?_⟩ (Fr.of_grown_some h'));obtain⟨h1,h2⟩:=hh y hy hy2;unfold updP;by_cases e:y=(s,n)
 ·subst e;rw[if_pos rfl];exact⟨by rw[has_put_same ho.isMap (zFA _) _];rfl,fun v hv z=>by cases hv;rw[atKey_put_same ho.isMap (zFA _) _ _]⟩
 ·rw[if_neg e];have hne:plL y≠plL (s,n):=fun he=>e (zE1 hy hy2 hs hn he)
  exact⟨by rw[has_put_other hne];exact h1,fun v hv z=>by rw[atKey_put_other hne];exact h2 v hv z⟩
def grpD (l:List Int):DataW Unit:=if l=[]then .nil else .slice (Go.ChangeShapes.lits .i64 l) []
def GMap (w:World)(base mb:Nat)(f:List UInt8->List Int)(N:Nat):Prop:=
 ∃ (D:DataW Unit) (n:Nat),n<=N/\w.ownsGroups Tryz.prog 9 base 3 .i64 mb n D/\(∀ x,D.atKey (.string x) .nil=grpD (f x))/\∀ x,has D (.string x)=!(f x).isEmpty
theorem GMap.made {w:World}{mb base:Nat}(h:w.heap[mb]?=some (.map #[] 0))(hb:mb<base):GMap w base mb (fun _=>[]) 0:=
 ⟨.map [],0,Nat.le_refl _,⟨#[],0,h,⟨by simp,Go.MapKept.stamped_empty 0,by simp⟩,Nat.le_refl _,rfl,hb,by simp,by simp⟩,fun _=>rfl,fun _=>rfl⟩
theorem GMap.lt {w:World}{base mb:Nat}{f:List UInt8->List Int}{N:Nat}(h:GMap w base mb f N):mb<w.heap.size:=by
 obtain⟨D,n,_,⟨es,c,hb,_⟩,_⟩:=h;exact(Array.getElem?_eq_some_iff.1 hb).1
theorem zIm {a b:List Int}(h:Go.ChangeShapes.lits (H:=Unit) .i64 a=Go.ChangeShapes.lits .i64 b):a=b:=by
 unfold Go.ChangeShapes.lits at h;exact(List.map_inj_right (fun x y hxy=>by simpa using hxy)).1 h
theorem zeroIs (w:World):(zeroValue 22).run Tryz.prog w=.ok (.slice none 0 0) w:=by kernel_rfl
theorem GMap.look {w:World}{base mb:Nat}{f:List UInt8->List Int}{N:Nat}(h:GMap w base mb f N)(hN:N<maxLen){x:ByteArray}(hx:x.size<=maxLen):
  ∃ v,(∀ W:World,W.heap[mb]?=w.heap[mb]?->(Instr.lookup 314 (.map (some mb)) (.string x) false).run Tryz.prog W=.ok v W)/\w.ownsInts base 3 .i64 v (f (kb x))/\(f (kb x)).length<=N/\
   (∀ (y:Int),(Lit.int .i64 y).wf=true->∀ (w1:World) (v':Value),w.grownBy w1 v.ownBlock->w1.ownsInts base 3 .i64 v' (f (kb x)++[y])->(v'.ownBlock=v.ownBlock\/∃ g,v'.ownBlock=some g/\w.heap.size<=g)->
    ∃ w2,(Instr.mapUpdate 314 (.map (some mb)) (.string x) v').run Tryz.prog w1=.ok () w2/\GMap w2 base mb (fun z=>if z=kb x then f (kb x)++[y]else f z) (N+1)/\w1.grownBy w2 (some mb)):=by
 obtain⟨D,n,hn,hown,h1,h2⟩:=h;have hkey:=keyS hx;obtain⟨v,zs,hrun,hat,hoi,hzl,hback⟩:=hown.at lawS Tryz.underlying314 (zeroIs w) (by omega) hkey;have hzs:zs=f (kb x):=by
  rw[h1 (kb x)]at hat;unfold grpD at hat;rcases hoi.datum (H:=Unit)with⟨e1,e2⟩ | e1
  ·rw[e1]at hat;split at hat
   ·rename_i h0;rw[e2,h0]
   ·cases hat
  ·rw[e1]at hat;split at hat
   ·cases hat
   ·injection hat with h3
    exact(zIm h3).symm
 subst hzs;refine⟨v,fun W hW=>?_,hoi,by omega,fun y hy w1 v' hg ho' hloc=>?_⟩
 ·obtain⟨es,clock,hb,F,_⟩:=hown;rcases Maps.fit_look false lawS Tryz.underlying314 (zeroIs w) hb F hkey with⟨r1,r2,_⟩ | ⟨e0,y0,m0,k0,r1,_⟩
  ·rcases Maps.fit_look false lawS Tryz.underlying314 (zeroIs W) (hW.trans hb) F hkey with⟨r3,_,_⟩ | ⟨e1,y1,m1,k1,r3,_⟩
   ·rw[hrun]at r1;rw[r3];have:v=.slice none 0 0:=by simpa using r1
    rw[this];rfl
   ·exact absurd k1 (r2 e1 m1)
  ·rcases Maps.fit_look false lawS Tryz.underlying314 (zeroIs W) (hW.trans hb) F hkey with⟨_,r2,_⟩ | ⟨e1,y1,m1,k1,r3,_⟩
   ·exact absurd k0 (r2 e0 m0)
   ·have he:e0=e1:=entry_eq_of_key ((Go.MapKept.stamped_iff es clock).1 F.stamped).2.2 m0 m1 (k0.trans k1.symm);rw[hrun]at r1;have:v=e0.val:=by simpa using r1
    rw[r3,this,he];rfl
 ·obtain⟨w2,r1,r2,r3⟩:=hback w1 v' _ hg ho' (by simp;omega) hloc;refine⟨w2,r1,⟨_,n+1,by omega,r2,fun z=>?_,fun z=>?_⟩,r3⟩
  ·dsimp only;have him:IsMap D:=by obtain⟨es,clock,_,_,_,rfl,_⟩:=hown;exact⟨_,rfl⟩
   have hrd:rowDatum (H:=Unit) .i64 v' (f (kb x)++[y])=.slice (Go.ChangeShapes.lits .i64 (f (kb x)++[y])) []:=ho'.datum_pos (by simp);by_cases e:z=kb x
   ·subst e;rw[atKey_put_same him (isKeyS _) _ _,hrd,if_pos rfl,grpD,if_neg (by simp)]
   ·rw[atKey_put_other (by intro e';exact e (by simpa using e')),h1,if_neg e]
  ·dsimp only;have him:IsMap D:=by obtain⟨es,clock,_,_,_,rfl,_⟩:=hown;exact⟨_,rfl⟩
   by_cases e:z=kb x
   ·subst e;rw[has_put_same him (isKeyS _) _,if_pos rfl];simp
   ·rw[has_put_other (by intro e';exact e (by simpa using e')),h2,if_neg e]
theorem GMap.grown {w w':World}{base mb:Nat}{f:List UInt8->List Int}{N:Nat}{row:Option Nat}(h:GMap w base mb f N)(hg:w.grownBy w' row)(hb:some mb≠row)(hr:∀ j,row=some j->j<base):GMap w' base mb f N:=by
 obtain⟨D,n,hn,ho,h1,h2⟩:=h;exact⟨D,n,hn,ho.kept hg hb (ho.rowsAbove hr),h1,h2⟩
theorem rowAq : (132:TypeId)<Tryz.prog.types.size:=of_decide_eq_true (by kernel_rfl)
theorem wideAq : (match Tryz.prog.underlying 132 with | some (.array _ _) | some (.struct _)=>true | _=>false)=true:=by kernel_rfl
theorem lawQ : Keyed Tryz.prog 132:=Keyed.of_law (deep_law_laid zFo (m:=3) (by omega) rowAq (by kernel_rfl) wideAq)
theorem typeAq : Tryz.prog.keyType 132=true:=by kernel_rfl
theorem zHy : Tryz.prog.cellsOf 132=2:=by kernel_rfl
theorem litsAq (d:Nat)(v0 v1:Value):Tryz.prog.keyLits (d+2) 132 [v0,v1]=(Tryz.prog.keyLits (d+1) 9 [v0]).bind fun a=>(Tryz.prog.keyLits (d+1) 9 [v1]).map fun b=>a++b:=by
 rw[Program.keyLits.eq_def];simp only[Tryz.underlying132,zHy];simp[zD8,zD8];cases Tryz.prog.keyLits (d+1) 9 [v0]<;>cases Tryz.prog.keyLits (d+1) 9 [v1]<;>simp
def aqL (x:ByteArray×ByteArray):Lit:=.string (keyBytes [.string x.1.data.toList,.string x.2.data.toList])
theorem zIu (xs:Array Value):(Value.agg xs).formed Tryz.prog 132=(xs.size==2):=by
 simp[Value.formed,Tryz.underlying132,zHy]
theorem keyQ {s:ByteArray}{n:ByteArray}(hs:s.size<=maxLen)(hn:n.size<=maxLen):keyOf Tryz.prog 132 (.agg #[.string s,.string n])=some (aqL (s,n)):=by
 obtain⟨d,hd⟩:=sizePl;unfold keyOf;simp only[Tryz.underlying132,typeAq,zIu];rw[hd];have h1:=(zDx d (.string s) _).2 ⟨s,rfl,hs,rfl⟩;have h2:=(zDx d (.string n) _).2 ⟨n,rfl,hn,rfl⟩;have h3:=litsAq d (.string s) (.string n);rw[h1,h2]at h3;simp[Value.cells,h3,aqL]
theorem zIB {x y:ByteArray×ByteArray}(hx:x.1.size<=maxLen)(hx2:x.2.size<=maxLen)(hy:y.1.size<=maxLen)(hy2:y.2.size<=maxLen)(h:aqL x=aqL y):x=y:=by
 have h1:=keyQ hx hx2;have h2:=keyQ hy hy2;rw[h]at h1;have h3:=lawQ.inj h1 h2;simp at h3;obtain⟨a,b⟩:=x;obtain⟨c,d⟩:=y;simp only at h3;rw[h3.1,h3.2]
def QMap (w:World)(mb:Nat)(g:ByteArray×ByteArray->Option Value)(N:Nat):Prop:=
 ∃ (D:DataW Value) (n:Nat),n<=N/\w.ownsMap Tryz.prog 132 heldV mb n D/\∀ x:ByteArray×ByteArray,x.1.size<=maxLen->x.2.size<=maxLen->has D (aqL x)=(g x).isSome/\∀ v,g x=some v->∀ z,D.atKey (aqL x) z=.held v
theorem QMap.lt {w:World}{mb:Nat}{g:ByteArray×ByteArray->Option Value}{N:Nat}(h:QMap w mb g N):mb<w.heap.size:=by obtain⟨D,n,_,ho,_⟩:=h;exact ho.lt
theorem QMap.fr {S:Nat->Prop}{w w':World}{mb:Nat}{g:ByteArray×ByteArray->Option Value}{N:Nat}(h:QMap w mb g N)(hf:Fr S w w')(hS:¬ S mb):QMap w' mb g N:=by
 obtain⟨D,n,hn,ho,r⟩:=h;exact⟨D,n,hn,hf.ownsMap ho hS,r⟩
theorem QMap.made (w:World):QMap (w.alloc (.map #[] 0)) w.heap.size (fun _=>none) 0:=⟨.map [],0,Nat.le_refl _,World.ownsMap_made _ _ _ _,fun _ _ _=>⟨rfl,fun _ h=>by cases h⟩⟩
theorem QMap.look {w:World}{mb:Nat}{g:ByteArray×ByteArray->Option Value}{N:Nat}(h:QMap w mb g N){t e:TypeId}{z:Value}(hz:(zeroValue e).run Tryz.prog w=.ok z w)(ht:Tryz.prog.underlying t=some (.map 132 e))
  {s:ByteArray} {n:ByteArray} (hs:s.size<=maxLen) (hn:n.size<=maxLen):(Instr.lookup t (.map (some mb)) (.agg #[.string s,.string n]) false).run Tryz.prog w=.ok ((g (s,n)).getD z) w:=by
 obtain⟨D,m,_,ho,hh⟩:=h;obtain⟨h1,h2⟩:=hh (s,n) hs hn;obtain⟨v,ps,hrun,hv⟩:=ho.lookup lawQ ht hz (zd:=.held z) (zp:=[]) rfl (keyQ hs hn);rw[hrun,zD2 h1 h2 hv]
theorem zD1 (x:ByteArray×ByteArray):WideAt.IsKeyLit (aqL x):=trivial
def updQ (g:ByteArray×ByteArray->Option Value)(x:ByteArray×ByteArray)(v:Value):ByteArray×ByteArray->Option Value:=fun y=>if y=x then some v else g y
theorem zCZ {w:World}{ops:Array Oper}{rest:List Oper}{o:Oper}{a:Act}{Q:Exit->Act->World->Prop}(hg:o.guard=none)(m x v:Operand)(t e:TypeId)(hop:o.op=Op.mapUpdate t m x v)(ht:Tryz.prog.underlying t=some (.map 132 e))
  (mb:Nat) (g:ByteArray×ByteArray->Option Value) (N:Nat) (hN:N<maxLen) (s:ByteArray) (n:ByteArray) (hs:s.size<=maxLen) (hn:n.size<=maxLen) (u:Value) (hm:a.eval m=.map (some mb)) (hown:QMap w mb g N) (hx:a.eval x=.agg #[.string s,.string n]) (hv:a.eval v=u)
  (hK:∀ w',QMap w' mb (updQ g (s,n) u) (N+1)->Fr (Is mb) w w'->wpList Tryz.prog ops Q rest (a.put o.dst undef) w'):wpList Tryz.prog ops Q (o::rest) a w:=by
 obtain⟨D,k,hk,ho,hh⟩:=hown;refine wpList_mapUpdate_own w hg m x v t hop 132 e lawQ ht heldV mb k D hm ho (by omega) _ _ _ hx hv (keyQ hs hn) (.held u) [] rfl (fun w' h h'=>hK w' ⟨_,k+1,by omega,h,fun y hy hy2=>?_⟩ (Fr.of_grown_some h'));obtain⟨h1,h2⟩:=hh y hy hy2;unfold updQ;by_cases e:y=(s,n)
 ·subst e;rw[if_pos rfl];exact⟨by rw[has_put_same ho.isMap (zD1 _) _];rfl,fun v hv z=>by cases hv;rw[atKey_put_same ho.isMap (zD1 _) _ _]⟩
 ·rw[if_neg e];have hne:aqL y≠aqL (s,n):=fun he=>e (zIB hy hy2 hs hn he)
  exact⟨by rw[has_put_other hne];exact h1,fun v hv z=>by rw[atKey_put_other hne];exact h2 v hv z⟩
end Go.Proofs.YtmajgldaplkpiaaGreatDoor
