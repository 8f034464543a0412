import Derived.Test.YtinfjnndbfahhaaGreatDoorQ3
import Derived.Test.YtinfjnndbfahhaaGreatDoorShelf
import Derived.Maps.StringElems
import Derived.Shelf.AbstractIn
import Derived.DeepKeys4
import Derived.Maps.RangeWalk
import Derived.Maps.OwnRows
import Derived.Maps.GroupsBeside
namespace Go.Proofs.YtinfjnndbfahhaaGreatDoor
open Go.RowKit Go.Maps Go.Sort Go.Shelf
set_option linter.unusedVariables false
set_option maxRecDepth 100000
set_option maxHeartbeats 1000000
def kb (x:ByteArray):List UInt8:=x.data.toList
def bk (x:List UInt8):ByteArray:=⟨x.toArray⟩
theorem zEY (x:ByteArray):bk (kb x)=x:=by unfold bk kb;simp
theorem zHK (x:List UInt8):kb (bk x)=x:=by unfold bk kb;simp
theorem zE5 {x y:ByteArray}(h:kb x=kb y):x=y:=by rw[<-zEY x,h,zEY]
def heldV (v:Value):Option (DataW Value×List MemPlace):=some (.held v,[])
def VMap (w:World)(mb:Nat)(g:List UInt8->Option Value)(N:Nat):Prop:=
 ∃ (D:DataW Value) (n:Nat),n<=N/\w.ownsMap Tryz.prog 9 heldV mb n D/\(∀ x,has D (.string x)=(g x).isSome)/\∀ x v,g x=some v->∀ z,D.atKey (.string x) z=.held v
theorem VMap.lt {w:World}{f:Nat}{g:List UInt8->Option Value}{N:Nat}(h:VMap w f g N):f<w.heap.size:=by obtain⟨D,n,_,o,_⟩:=h;exact o.lt
theorem VMap.fr {S:Nat->Prop}{w w':World}{f:Nat}{g:List UInt8->Option Value}{N:Nat}(h:VMap w f g N)(o:Fr S w w')(q:¬ S f):VMap w' f g N:=by
 obtain⟨D,n,u,v,r⟩:=h;exact⟨D,n,u,o.ownsMap v q,r⟩
theorem VMap.made (w:World):VMap (w.alloc (.map #[] 0)) w.heap.size (fun _=>none) 0:=⟨.map [],0,Nat.le_refl _,World.ownsMap_made _ _ _ _,fun _=>rfl,fun _ _ h=>by cases h⟩
theorem VMap.mono {w:World}{f:Nat}{g:List UInt8->Option Value}{N M:Nat}(h:VMap w f g N)(o:N<=M):VMap w f g M:=by
 obtain⟨D,n,q,r⟩:=h;exact⟨D,n,by omega,r⟩
theorem lawS : Keyed Tryz.prog 9:=string_keyed Tryz.underlying9
theorem keyS {s:ByteArray}(f:s.size<=maxLen):keyOf Tryz.prog 9 (.string s)=some (.string (kb s)):=Go.WideMaps.keyOf_string_mk Tryz.underlying9 f
theorem isKeyS (x:List UInt8):WideAt.IsKeyLit (.string x):=trivial
theorem zBT {w:World}{h:Array Oper}{f:List Oper}{o:Oper}{a:Act}{Q:Exit->Act->World->Prop}(L:o.guard=none)(m x:Operand)(t e:TypeId)(z:Value)(O:(zeroValue e).run Tryz.prog w=.ok z w)(A:o.op=Op.lookup t m x true)(R:Tryz.prog.underlying t=some (.map 9 e))
  (C:Nat) (g:List UInt8->Option Value) (N:Nat) (k:ByteArray) (U:k.size<=maxLen) (V:a.eval m=.map (some C)) (q:VMap w C g N) (X:a.eval x=.string k)
  (v:Value) (Y:(g (kb k)).getD z=v) (b:Bool) (Z:(g (kb k)).isSome=b)
  (hK:wpList Tryz.prog h Q f (a.put o.dst (.tuple #[v,.bool b])) w):wpList Tryz.prog h Q (o::f) a w:=by
 obtain⟨D,n,_,ho,I,h2⟩:=q;refine wpList_lookup_own_ok w L m x t A 9 e lawS R heldV O (.held z) [] rfl C n D V ho _ _ X (keyS U) (fun v1 ps u=>?_);simp only[heldV,Option.some.injEq,Prod.mk.injEq]at u;have y:=u.1;have F:=Y;have e:v1=(g (kb k)).getD z:=by
  rcases hgk:g (kb k)with _ | v'
  ·have J:=I (kb k);rw[hgk]at J;rw[atKey_of_not_has J]at y
   simpa using y
  ·rw[h2 _ _ hgk]at y
   simpa using y
 rw[I,e,F,Z];exact hK
theorem zKZ {w:World}{h:Array Oper}{f:List Oper}{o:Oper}{a:Act}{Q:Exit->Act->World->Prop}(O:o.guard=none)(m x:Operand)(t e:TypeId)(z:Value)(R:(zeroValue e).run Tryz.prog w=.ok z w)(C:o.op=Op.lookup t m x false)(U:Tryz.prog.underlying t=some (.map 9 e))
  (I:Nat) (g:List UInt8->Option Value) (N:Nat) (k:ByteArray) (V:k.size<=maxLen) (X:a.eval m=.map (some I)) (q:VMap w I g N) (Y:a.eval x=.string k)
  (u:Value) (Z:(g (kb k)).getD z=u)
  (hK:wpList Tryz.prog h Q f (a.put o.dst u) w):wpList Tryz.prog h Q (o::f) a w:=by
 obtain⟨D,n,_,ho,h1,h2⟩:=q;refine wpList_plain O fun K' F=>?_
 obtain⟨v,ps,y,J⟩:=ho.lookup lawS U R (zd:=.held z) (zp:=[]) rfl (keyS V);simp only[heldV,Option.some.injEq,Prod.mk.injEq]at J;have A:=J.1;have e:v=(g (kb k)).getD z:=by
  rcases hgk:g (kb k)with _ | v'
  ·have L:=h1 (kb k);rw[hgk]at L;rw[atKey_of_not_has L]at A
   simpa using A
  ·rw[h2 _ _ hgk]at A
   simpa using A
 unfold Oper.wp;simp[execOp,C,X,Y,y,Result.andThen];rw[e,Z];exact F _ _ hK
def updS (g:List UInt8->Option Value)(x:List UInt8)(v:Value):List UInt8->Option Value:=fun y=>if y=x then some v else g y
theorem VMap.put {w A:World}{h:Nat}{D:DataW Value}{n N:Nat}{g:List UInt8->Option Value}(J:n<=N)(C:w.ownsMap Tryz.prog 9 heldV h n D)(F:∀ x,has D (.string x)=(g x).isSome)(I:∀ x v,g x=some v->∀ z,D.atKey (.string x) z=.held v)
  (x:List UInt8) (v:Value) (o:A.ownsMap Tryz.prog 9 heldV h (n+1) (D.put (.string x) (.held v))):VMap A h (updS g x v) (N+1):=by
 refine⟨_,n+1,by omega,o,fun y=>?_,fun y u f z=>?_⟩
 ·unfold updS;split
  ·rename_i e;subst e;rw[has_put_same C.isMap (isKeyS _) _];rfl
  ·rename_i e;rw[has_put_other (by intro q;exact e (by simpa using q))];exact F y
 ·unfold updS at f;split at f
  ·rename_i e;subst e;cases f;rw[atKey_put_same C.isMap (isKeyS _) _ _]
  ·rename_i e;rw[atKey_put_other (by intro q;exact e (by simpa using q))];exact I y u f z
theorem zBh {w:World}{q:Array Oper}{f:List Oper}{o:Oper}{a:Act}{Q:Exit->Act->World->Prop}(F:o.guard=none)(m x v:Operand)(t e:TypeId)(A:o.op=Op.mapUpdate t m x v)(I:Tryz.prog.underlying t=some (.map 9 e))
  (y:Nat) (g:List UInt8->Option Value) (N:Nat) (hN:N<maxLen) (k:ByteArray) (J:k.size<=maxLen) (u:Value) (L:a.eval m=.map (some y)) (z:VMap w y g N) (O:a.eval x=.string k) (R:a.eval v=u)
  (U:∀ w',VMap w' y (updS g (kb k) u) (N+1)->Fr (Is y) w w'->wpList Tryz.prog q Q f (a.put o.dst undef) w'):wpList Tryz.prog q Q (o::f) a w:=by
 obtain⟨D,n,V,C,X,Y⟩:=z;exact wpList_mapUpdate_own w F m x v t A 9 e lawS I heldV y n D L C (by omega) _ _ _ O R (keyS J) (.held u) [] rfl (fun w' h Z=>U w' (VMap.put V C X Y _ _ h) (Fr.of_grown_some Z))
def leS : List UInt8->List UInt8->Bool:=fun x y=>decide (x<=y)
def AscS (l:List (List UInt8)):Prop:=l.Pairwise (fun x y=>leS x y=true/\x≠y)
theorem zE4 {x y:List UInt8}(h:leS x y=true)(f:leS y x=true):x=y:=by
 unfold leS at *;simp only[decide_eq_true_eq]at *;exact List.le_antisymm h f
theorem zIN {x y z:List UInt8}(h:leS x y=true)(f:leS y z=true):leS x z=true:=by
 unfold leS at *;simp only[decide_eq_true_eq]at *;exact List.le_trans h f
theorem zIO (x y:List UInt8):(leS x y||leS y x)=true:=by
 unfold leS;simp only[Bool.or_eq_true,decide_eq_true_eq];exact List.le_total x y
theorem AscS.ext : ∀ {l l':List (List UInt8)},AscS l->AscS l'->(∀ x,x∈l↔x∈l')->l=l'
 | [],[],_,_,_=>rfl
 | [],y::t,_,_,h=>by have:=(h y).2 (by simp);simp at this
 | x::s,[],_,_,h=>by have:=(h x).1 (by simp);simp at this
 | x::s,y::t,v,A,h=>by
  have o:=List.pairwise_cons.1 v;have q:=List.pairwise_cons.1 A;have C:=(h x).1 (by simp);have D:=(h y).2 (by simp);have e:x=y:=by
   rcases List.mem_cons.1 C with f | f
   ·exact f
   ·rcases List.mem_cons.1 D with u | u
    ·exact u.symm
    ·exact zE4 (o.1 y u).1 (q.1 x f).1
  subst e;refine congrArg _ (AscS.ext o.2 q.2 fun z=>?_);constructor
  ·intro g;rcases List.mem_cons.1 ((h z).1 (by simp[g]))with f | f
   ·subst f;exact absurd rfl (o.1 z g).2
   ·exact f
  ·intro g;rcases List.mem_cons.1 ((h z).2 (by simp[g]))with f | f
   ·subst f;exact absurd rfl (q.1 z g).2
   ·exact f
theorem zDP {l:List (List UInt8)}(h:l.Nodup):AscS (l.mergeSort leS):=by
 have g:=List.pairwise_mergeSort (le:=leS) (fun _ _ _ h f=>zIN h f) (fun a b=>zIO a b) l;have f:(l.mergeSort leS).Nodup:=(List.mergeSort_perm l _).nodup_iff.2 h;exact(g.and f).imp (fun h=>h)
theorem zC4 {H:Type}{P:Program}{k:TypeId}{R:Value->Option (DataW H×List MemPlace)}{w:World}{b n:Nat}{D:DataW H}(h:w.ownsMap P k R b n D)(u:P.underlying k=some .string)(x:List UInt8):
  x∈strKeys D↔has D (.string x)=true:=by
 obtain⟨A,rfl,f⟩:=h.keysOf;rw[has_eq,List.any_eq_true];show x∈A.map (fun p=>Go.strOf p.1)↔_
 rw[List.mem_map];constructor
 ·rintro ⟨p,g,rfl⟩;obtain⟨v,q⟩:=f p g;obtain⟨y,_,o,_⟩:=Maps.keyOf_str u q;exact⟨p,g,by rw[o];simp[Lit.sameKey,Go.strOf]⟩
 ·rintro ⟨p,g,z⟩;obtain⟨v,q⟩:=f p g;obtain⟨y,_,o,_⟩:=Maps.keyOf_str u q;rw[o]at z;exact⟨p,g,by rw[o];simpa [Lit.sameKey,Go.strOf]using z⟩
theorem zBw {H:Type}{P:Program}{k:TypeId}{R:Value->Option (DataW H×List MemPlace)}{w:World}{b n:Nat}{D:DataW H}(h:w.ownsMap P k R b n D)(K:Keyed P k)(A:P.underlying k=some .string):
  (strKeys D).Nodup:=by
 obtain⟨C,rfl,f⟩:=h.keysOf;obtain⟨g,e,F⟩:=h.tidy K;obtain rfl:C=g:=by simpa using e
 show (C.map fun p=>Go.strOf p.1).Nodup
 refine List.pairwise_map.2 (F.imp_of_mem fun {p q} o u y e=>y ?_);obtain⟨v,I⟩:=f p o;obtain⟨a,_,J,_⟩:=Maps.keyOf_str A I;obtain⟨N,z⟩:=f q u;obtain⟨b,_,L,_⟩:=Maps.keyOf_str A z;rw[J,L]at e ⊢;exact congrArg _ e
theorem zCr {H:Type}(D:DataW H):(strKeys D).length<=Maps.size D:=by
 cases D<;>simp[strKeys,Maps.size]
theorem sortsS (m:Nat):AnyZ.SortsIn Tryz.prog Tryz.sortedS_ren Fence.wide m:=
 ⟨fun h o f u W v g q=>callsIn_wide.2 (AnyM.slices_Sort_string Tryz.sortS h o f u W v g q),
  fun p f W=>callsIn_wide.2 (AnyM.slices_Sort_string_none Tryz.sortS p f W)⟩
theorem zLy (f:Option Nat)(w:World):Calls Tryz.prog 209 #[.map f] w fun e w'=>e=.returned (.func (.func 249) #[] #[.pointer (some ⟨w.heap.size,0,none⟩)])/\w'=w.alloc (.cells #[.map f] 283):=
 (callsIn_wide (n:=5)).1 (AnyZ.keys_in Tryz.keysM Fence.wide 5 trivial rfl f w)
theorem zJd (R C:Nat)(g:List UInt8->Option Value)(N:Nat)(w:World)(hs:VMap w R g N)(hN:N<=1099511627776)(hB:w.cell? ⟨C,0,none⟩=some (.map (some R)))(U:C<w.heap.size):
  Calls Tryz.prog 208 #[.func (.func 249) #[] #[.pointer (some ⟨C,0,none⟩)]] w fun e w'=>
   (∃ a z o,e=.returned (.slice a o.length z)/\Strs w' a z o/\AscS (o.map kb)/\(∀ x:ByteArray,x∈o↔(g (kb x)).isSome=true)/\o.length<=N/\∀ Z,a=some Z->w.heap.size<=Z.block)/\Fr No w w':=by
 obtain⟨D,n,hn,f,hf,_⟩:=hs;have a3:=f.size_le;have I:Maps.size D<=maxLen:=by unfold maxLen;omega
 have A:Maps.size D*16<=140737488355328:=by omega
 have J:=zC4 f Tryz.underlying9;have V:=zBw f lawS Tryz.underlying9;have a2:=zCr D;have O:SeqGives Fence.wide 2 Tryz.prog 249 #[.pointer (some ⟨C,0,none⟩)] encStr (fun F=>F.Perm (strKeys D)) (Maps.size D) w:=
  AnyZ.keys_gives (ρ:=Tryz.keysM_ren) { Tryz.keysM with } Fence.wide _ trivial rfl (by omega) C R n D _ U hB f
 have cS:=AnyZ.sorted_in Tryz.sortedS Fence.wide 5 trivial trivial trivial trivial rfl (by omega) (sortsS _) (enters_of Tryz.func248 (by kernel_rfl) rfl) 249 #[.pointer (some ⟨C,0,none⟩)] trivial (enters_of Tryz.func249 (by kernel_rfl) rfl) _ _ I A _ O;refine((callsIn_wide (n:=5)).1 cS).mono ?_;rintro e w' ⟨v,F,rfl,q,u,_,hb⟩;have X:(F.mergeSort (fun x y=>decide (x<=y))).Perm (strKeys D):=(List.mergeSort_perm F _).trans q;obtain⟨L,Y⟩:∃ L,L=(F.mergeSort (fun x y=>decide (x<=y))):=⟨_,rfl⟩
 have hl:(L.map bk).length=F.length:=by rw[Y];simp
 have e1:L.map encStr=(L.map bk).map Value.string:=by rw[List.map_map];rfl
 rw[<-Y]at X u;rw[<-hl,e1]at u;obtain⟨a,z,rfl,h1,h2⟩:=Strs.of_own u;have e2:(L.map bk).map kb=L:=by
  rw[List.map_map];have:kb∘bk=id:=by funext x;exact zHK x
  rw[this,List.map_id]
 refine⟨⟨a,z,L.map bk,rfl,h1,?_,fun x=>?_,?_,h2⟩,Fr.of_below_size hb⟩
 ·rw[e2,Y];exact zDP (q.nodup_iff.2 V)
 ·rw[<-hf,<-J,<-X.mem_iff];constructor
  ·intro h;obtain⟨y,hy,rfl⟩:=List.mem_map.1 h
   rwa [zHK]
  ·intro h;exact List.mem_map.2 ⟨_,h,zEY x⟩
 ·rw[List.length_map,X.length_eq];omega
theorem zGS : laidOutB Tryz.prog=true:=by kernel_rfl
theorem rowPl : (278:TypeId)<Tryz.prog.types.size:=of_decide_eq_true (by kernel_rfl)
theorem widePl : (match Tryz.prog.underlying 278 with | some (.array _ _) | some (.struct _)=>true | _=>false)=true:=by kernel_rfl
theorem lawP : Keyed Tryz.prog 278:=Keyed.of_law (deep_law_laid zGS (m:=3) (by omega) rowPl (by kernel_rfl) widePl)
theorem typePl : Tryz.prog.keyType 278=true:=by kernel_rfl
theorem zIo : Tryz.prog.cellsOf 278=2:=by kernel_rfl
theorem zEW : Tryz.prog.cellsOf 9=1:=by kernel_rfl
theorem zJx : Tryz.prog.cellsOf 3=1:=by kernel_rfl
theorem sizePl : ∃ n,Tryz.prog.types.size=n+1:=⟨Tryz.prog.types.size-1,by have:0<Tryz.prog.types.size:=of_decide_eq_true (by kernel_rfl);omega⟩
theorem litsPl (d:Nat)(f g:Value):Tryz.prog.keyLits (d+2) 278 [f,g]=(Tryz.prog.keyLits (d+1) 9 [f]).bind fun a=>(Tryz.prog.keyLits (d+1) 3 [g]).map fun b=>a++b:=by
 rw[Program.keyLits.eq_def];simp only[Tryz.underlying278,zIo];simp[zEW,zJx];cases Tryz.prog.keyLits (d+1) 9 [f]<;>cases Tryz.prog.keyLits (d+1) 3 [g]<;>simp
theorem zEK (d:Nat)(v:Value)(f:List Lit):Tryz.prog.keyLits (d+1) 9 [v]=some f↔∃ s,v=.string s/\s.size<=maxLen/\f=[.string s.data.toList]:=by
 rw[Program.keyLits.eq_def];simp only[Tryz.underlying9];cases v<;>simp;intro _;exact eq_comm
theorem zIL (d:Nat)(v:Value)(f:List Lit):Tryz.prog.keyLits (d+1) 3 [v]=some f↔∃ n,v=.int .i64 n/\(Lit.int .i64 n).wf=true/\f=[.int .i64 n]:=by
 rw[Program.keyLits.eq_def];simp only[Tryz.underlying3];cases v<;>simp;rename_i q n;constructor
 ·rintro ⟨⟨rfl,h⟩,rfl⟩;exact⟨n,⟨rfl,rfl⟩,h,rfl⟩
 ·rintro ⟨g,⟨rfl,rfl⟩,h,rfl⟩;exact⟨⟨rfl,h⟩,rfl⟩
def plL (x:ByteArray×Int):Lit:=.string (keyBytes [.string x.1.data.toList,.int .i64 x.2])
theorem zGZ (f:Array Value):(Value.agg f).formed Tryz.prog 278=(f.size==2):=by
 simp[Value.formed,Tryz.underlying278,zIo]
theorem keyP {s:ByteArray}{n:Int}(g:s.size<=maxLen)(h:(Lit.int .i64 n).wf=true):keyOf Tryz.prog 278 (.agg #[.string s,.int .i64 n])=some (plL (s,n)):=by
 obtain⟨d,o⟩:=sizePl;unfold keyOf;simp only[Tryz.underlying278,typePl,zGZ];rw[o];have q:=(zEK d (.string s) _).2 ⟨s,rfl,g,rfl⟩;have u:=(zIL d (.int .i64 n) _).2 ⟨n,rfl,h,rfl⟩;have f:=litsPl d (.string s) (.int .i64 n);rw[q,u]at f;simp[Value.cells,f,plL]
theorem zGT {f:Value}{u:Lit}(h:keyOf Tryz.prog 278 f=some u):∃ s n,f=.agg #[.string s,.int .i64 n]/\s.size<=maxLen/\(Lit.int .i64 n).wf=true:=by
 obtain⟨d,v⟩:=sizePl;unfold keyOf at h;simp only[Tryz.underlying278,typePl]at h;rw[v]at h;split at h
 ·rename_i g;simp only[Bool.true_and]at g;cases f with
  | agg y=>
   rw[zGZ,beq_iff_eq]at g;obtain⟨z⟩:=y
   match z,g with
   | [v0,q],_=>
    have o:=litsPl d v0 q;simp only[Value.cells]at h;rcases h0:Tryz.prog.keyLits (d+1) 9 [v0]with _ | a
    ·rw[h0]at o;simp[o]at h
    ·rcases h1:Tryz.prog.keyLits (d+1) 3 [q]with _ | b
     ·rw[h0,h1]at o;simp[o]at h
     ·obtain⟨s,rfl,A,_⟩:=(zEK d v0 a).1 h0;obtain⟨n,rfl,C,_⟩:=(zIL d q b).1 h1;exact⟨s,n,rfl,A,C⟩
  | _=>simp[Value.formed,Tryz.underlying278]at g
 ·cases h
theorem zFZ {x y:ByteArray×Int}(u:x.1.size<=maxLen)(g:(Lit.int .i64 x.2).wf=true)(v:y.1.size<=maxLen)(o:(Lit.int .i64 y.2).wf=true)(h:plL x=plL y):x=y:=by
 have q:=keyP u g;have z:=keyP v o;rw[h]at q;have f:=lawP.inj q z;simp at f;obtain⟨a,b⟩:=x;obtain⟨c,d⟩:=y;simp only at f;rw[f.1,f.2]
def PMap (w:World)(mb:Nat)(g:ByteArray×Int->Option Value)(N:Nat):Prop:=
 ∃ (D:DataW Value) (n:Nat),n<=N/\w.ownsMap Tryz.prog 278 heldV mb n D/\∀ x:ByteArray×Int,x.1.size<=maxLen->(Lit.int .i64 x.2).wf=true->has D (plL x)=(g x).isSome/\∀ v,g x=some v->∀ z,D.atKey (plL x) z=.held v
theorem PMap.lt {w:World}{f:Nat}{g:ByteArray×Int->Option Value}{N:Nat}(h:PMap w f g N):f<w.heap.size:=by obtain⟨D,n,_,o,_⟩:=h;exact o.lt
theorem PMap.fr {S:Nat->Prop}{w w':World}{f:Nat}{g:ByteArray×Int->Option Value}{N:Nat}(h:PMap w f g N)(o:Fr S w w')(q:¬ S f):PMap w' f g N:=by
 obtain⟨D,n,u,v,r⟩:=h;exact⟨D,n,u,o.ownsMap v q,r⟩
theorem PMap.made (w:World):PMap (w.alloc (.map #[] 0)) w.heap.size (fun _=>none) 0:=⟨.map [],0,Nat.le_refl _,World.ownsMap_made _ _ _ _,fun _ _ _=>⟨rfl,fun _ h=>by cases h⟩⟩
theorem PMap.mono {w:World}{f:Nat}{g:ByteArray×Int->Option Value}{N M:Nat}(h:PMap w f g N)(o:N<=M):PMap w f g M:=by
 obtain⟨D,n,q,r⟩:=h;exact⟨D,n,by omega,r⟩
theorem zEP {D:DataW Value}{g:Lit}{z v:Value}{o:Option Value}{q:List MemPlace}(u:has D g=o.isSome)(y:∀ v,o=some v->∀ z,D.atKey g z=.held v)(h:heldV v=some (D.atKey g (.held z),q)):v=o.getD z:=by
 simp only[heldV,Option.some.injEq,Prod.mk.injEq]at h;have f:=h.1;rcases o with _ | A
 ·rw[atKey_of_not_has u]at f
  simpa using f
 ·rw[y _ rfl]at f
  simpa using f
theorem PMap.look {w:World}{o:Nat}{g:ByteArray×Int->Option Value}{N:Nat}(h:PMap w o g N){t e:TypeId}{z:Value}(y:(zeroValue e).run Tryz.prog w=.ok z w)(A:Tryz.prog.underlying t=some (.map 278 e))
  {s:ByteArray} {n:Int} (q:s.size<=maxLen) (u:(Lit.int .i64 n).wf=true):(Instr.lookup t (.map (some o)) (.agg #[.string s,.int .i64 n]) false).run Tryz.prog w=.ok ((g (s,n)).getD z) w:=by
 obtain⟨D,m,_,C,F⟩:=h;obtain⟨I,J⟩:=F (s,n) q u;obtain⟨v,O,f,L⟩:=C.lookup lawP A y (zd:=.held z) (zp:=[]) rfl (keyP q u);rw[f,zEP I J L]
theorem zDc {w:World}{h:Array Oper}{f:List Oper}{o:Oper}{a:Act}{Q:Exit->Act->World->Prop}(J:o.guard=none)(m x:Operand)(t e:TypeId)(z:Value)(L:(zeroValue e).run Tryz.prog w=.ok z w)(u:o.op=Op.lookup t m x true)(O:Tryz.prog.underlying t=some (.map 278 e))
  (y:Nat) (g:ByteArray×Int->Option Value) (N:Nat) (s:ByteArray) (n:Int) (C:s.size<=maxLen) (F:(Lit.int .i64 n).wf=true) (R:a.eval m=.map (some y)) (q:PMap w y g N) (U:a.eval x=.agg #[.string s,.int .i64 n])
  (v:Value) (V:(g (s,n)).getD z=v) (b:Bool) (X:(g (s,n)).isSome=b)
  (Y:wpList Tryz.prog h Q f (a.put o.dst (.tuple #[v,.bool b])) w):wpList Tryz.prog h Q (o::f) a w:=by
 obtain⟨D,k,_,Z,hh⟩:=q;obtain⟨I,h2⟩:=hh (s,n) C F;refine wpList_lookup_own_ok w J m x t u 278 e lawP O heldV L (.held z) [] rfl y k D R Z _ _ U (keyP C F) (fun v1 ps A=>?_);rw[I,zEP I h2 A,V,X];exact Y
theorem zFj (x:ByteArray×Int):WideAt.IsKeyLit (plL x):=trivial
def updP (g:ByteArray×Int->Option Value)(x:ByteArray×Int)(v:Value):ByteArray×Int->Option Value:=fun y=>if y=x then some v else g y
theorem zCl {w:World}{q:Array Oper}{f:List Oper}{o:Oper}{a:Act}{Q:Exit->Act->World->Prop}(X:o.guard=none)(m x v:Operand)(t e:TypeId)(L:o.op=Op.mapUpdate t m x v)(Y:Tryz.prog.underlying t=some (.map 278 e))
  (A:Nat) (g:ByteArray×Int->Option Value) (N:Nat) (hN:N<maxLen) (s:ByteArray) (n:Int) (R:s.size<=maxLen) (U:(Lit.int .i64 n).wf=true) (u:Value) (Z:a.eval m=.map (some A)) (C:PMap w A g N) (hx:a.eval x=.agg #[.string s,.int .i64 n]) (F:a.eval v=u)
  (hK:∀ w',PMap w' A (updP g (s,n) u) (N+1)->Fr (Is A) w w'->wpList Tryz.prog q Q f (a.put o.dst undef) w'):wpList Tryz.prog q Q (o::f) a w:=by
 obtain⟨D,k,hk,O,hh⟩:=C;refine wpList_mapUpdate_own w X m x v t L 278 e lawP Y heldV A k D Z O (by omega) _ _ _ hx F (keyP R U) (.held u) [] rfl (fun w' h h'=>hK w' ⟨_,k+1,by omega,h,fun y V I=>?_⟩ (Fr.of_grown_some h'));obtain⟨h1,h2⟩:=hh y V I;unfold updP;by_cases e:y=(s,n)
 ·subst e;rw[if_pos rfl];exact⟨by rw[has_put_same O.isMap (zFj _) _];rfl,fun v F z=>by cases F;rw[atKey_put_same O.isMap (zFj _) _ _]⟩
 ·rw[if_neg e];have J:plL y≠plL (s,n):=fun he=>e (zFZ V I R U he)
  exact⟨by rw[has_put_other J];exact h1,fun v F z=>by rw[atKey_put_other J];exact h2 v F z⟩
def grpD (l:List Int):DataW Unit:=if l=[]then .nil else .slice (Go.ChangeShapes.lits .i64 l) []
def GMap (w:World)(base mb:Nat)(f:List UInt8->List Int)(N:Nat):Prop:=
 ∃ (D:DataW Unit) (n:Nat),n<=N/\w.ownsGroups Tryz.prog 9 base 3 .i64 mb n D/\(∀ x,D.atKey (.string x) .nil=grpD (f x))/\∀ x,has D (.string x)=!(f x).isEmpty
theorem GMap.made {w:World}{g f:Nat}(h:w.heap[g]?=some (.map #[] 0))(o:g<f):GMap w f g (fun _=>[]) 0:=
 ⟨.map [],0,Nat.le_refl _,⟨#[],0,h,⟨by simp,Go.MapKept.stamped_empty 0,by simp⟩,Nat.le_refl _,rfl,o,by simp,by simp⟩,fun _=>rfl,fun _=>rfl⟩
theorem GMap.lt {w:World}{g o:Nat}{f:List UInt8->List Int}{N:Nat}(h:GMap w g o f N):o<w.heap.size:=by
 obtain⟨D,n,_,⟨u,c,q,_⟩,_⟩:=h;exact(Array.getElem?_eq_some_iff.1 q).1
theorem zJf {a b:List Int}(h:Go.ChangeShapes.lits (H:=Unit) .i64 a=Go.ChangeShapes.lits .i64 b):a=b:=by
 unfold Go.ChangeShapes.lits at h;exact(List.map_inj_right (fun x y f=>by simpa using f)).1 h
theorem zeroIs (w:World):(zeroValue 22).run Tryz.prog w=.ok (.slice none 0 0) w:=by kernel_rfl
theorem GMap.look {w:World}{u J:Nat}{f:List UInt8->List Int}{N:Nat}(h:GMap w u J f N)(hN:N<maxLen){x:ByteArray}(hx:x.size<=maxLen):
  ∃ v,(∀ W:World,W.heap[J]?=w.heap[J]?->(Instr.lookup 281 (.map (some J)) (.string x) false).run Tryz.prog W=.ok v W)/\w.ownsInts u 3 .i64 v (f (kb x))/\(f (kb x)).length<=N/\
   (∀ (y:Int),(Lit.int .i64 y).wf=true->∀ (X:World) (L:Value),w.grownBy X v.ownBlock->X.ownsInts u 3 .i64 L (f (kb x)++[y])->(L.ownBlock=v.ownBlock\/∃ g,L.ownBlock=some g/\w.heap.size<=g)->
    ∃ Z,(Instr.mapUpdate 281 (.map (some J)) (.string x) L).run Tryz.prog X=.ok () Z/\GMap Z u J (fun z=>if z=kb x then f (kb x)++[y]else f z) (N+1)/\X.grownBy Z (some J)):=by
 obtain⟨D,n,hn,A,h1,h2⟩:=h;have C:=keyS hx;obtain⟨v,zs,I,o,a2,a7,O⟩:=A.at lawS Tryz.underlying281 (zeroIs w) (by omega) C;have a5:zs=f (kb x):=by
  rw[h1 (kb x)]at o;unfold grpD at o;rcases a2.datum (H:=Unit)with⟨R,e2⟩ | R
  ·rw[R]at o;split at o
   ·rename_i h0;rw[e2,h0]
   ·cases o
  ·rw[R]at o;split at o
   ·cases o
   ·injection o with h3
    exact(zJf h3).symm
 subst a5;refine⟨v,fun W hW=>?_,a2,by omega,fun y hy X L hg a3 a4=>?_⟩
 ·obtain⟨es,q,hb,F,_⟩:=A;rcases Maps.fit_look false lawS Tryz.underlying281 (zeroIs w) hb F C with⟨U,r2,_⟩ | ⟨e0,y0,m0,k0,U,_⟩
  ·rcases Maps.fit_look false lawS Tryz.underlying281 (zeroIs W) (hW.trans hb) F C with⟨Y,_,_⟩ | ⟨R,y1,m1,k1,Y,_⟩
   ·rw[I]at U;rw[Y];have:v=.slice none 0 0:=by simpa using U
    rw[this];rfl
   ·exact absurd k1 (r2 R m1)
  ·rcases Maps.fit_look false lawS Tryz.underlying281 (zeroIs W) (hW.trans hb) F C with⟨_,r2,_⟩ | ⟨R,y1,m1,k1,Y,_⟩
   ·exact absurd k0 (r2 e0 m0)
   ·have he:e0=R:=entry_eq_of_key ((Go.MapKept.stamped_iff es q).1 F.stamped).2.2 m0 m1 (k0.trans k1.symm);rw[I]at U;have:v=e0.val:=by simpa using U
    rw[Y,this,he];rfl
 ·obtain⟨Z,U,r2,Y⟩:=O X L _ hg a3 (by simp;omega) a4;refine⟨Z,U,⟨_,n+1,by omega,r2,fun z=>?_,fun z=>?_⟩,Y⟩
  ·dsimp only;have V:IsMap D:=by obtain⟨es,q,_,_,_,rfl,_⟩:=A;exact⟨_,rfl⟩
   have a6:rowDatum (H:=Unit) .i64 L (f (kb x)++[y])=.slice (Go.ChangeShapes.lits .i64 (f (kb x)++[y])) []:=a3.datum_pos (by simp);by_cases e:z=kb x
   ·subst e;rw[atKey_put_same V (isKeyS _) _ _,a6,if_pos rfl,grpD,if_neg (by simp)]
   ·rw[atKey_put_other (by intro e';exact e (by simpa using e')),h1,if_neg e]
  ·dsimp only;have V:IsMap D:=by obtain⟨es,q,_,_,_,rfl,_⟩:=A;exact⟨_,rfl⟩
   by_cases e:z=kb x
   ·subst e;rw[has_put_same V (isKeyS _) _,if_pos rfl];simp
   ·rw[has_put_other (by intro e';exact e (by simpa using e')),h2,if_neg e]
theorem GMap.grown {w w':World}{g o:Nat}{f:List UInt8->List Int}{N:Nat}{row:Option Nat}(h:GMap w g o f N)(u:w.grownBy w' row)(v:some o≠row)(y:∀ j,row=some j->j<g):GMap w' g o f N:=by
 obtain⟨D,n,z,q,A,C⟩:=h;exact⟨D,n,z,q.kept u v (q.rowsAbove y),A,C⟩
theorem rowAq : (132:TypeId)<Tryz.prog.types.size:=of_decide_eq_true (by kernel_rfl)
theorem wideAq : (match Tryz.prog.underlying 132 with | some (.array _ _) | some (.struct _)=>true | _=>false)=true:=by kernel_rfl
theorem lawQ : Keyed Tryz.prog 132:=Keyed.of_law (deep_law_laid zGS (m:=3) (by omega) rowAq (by kernel_rfl) wideAq)
theorem typeAq : Tryz.prog.keyType 132=true:=by kernel_rfl
theorem zIp : Tryz.prog.cellsOf 132=2:=by kernel_rfl
theorem litsAq (d:Nat)(f g:Value):Tryz.prog.keyLits (d+2) 132 [f,g]=(Tryz.prog.keyLits (d+1) 9 [f]).bind fun a=>(Tryz.prog.keyLits (d+1) 9 [g]).map fun b=>a++b:=by
 rw[Program.keyLits.eq_def];simp only[Tryz.underlying132,zIp];simp[zEW,zEW];cases Tryz.prog.keyLits (d+1) 9 [f]<;>cases Tryz.prog.keyLits (d+1) 9 [g]<;>simp
def aqL (x:ByteArray×ByteArray):Lit:=.string (keyBytes [.string x.1.data.toList,.string x.2.data.toList])
theorem zJq (f:Array Value):(Value.agg f).formed Tryz.prog 132=(f.size==2):=by
 simp[Value.formed,Tryz.underlying132,zIp]
theorem keyQ {s:ByteArray}{n:ByteArray}(g:s.size<=maxLen)(h:n.size<=maxLen):keyOf Tryz.prog 132 (.agg #[.string s,.string n])=some (aqL (s,n)):=by
 obtain⟨d,o⟩:=sizePl;unfold keyOf;simp only[Tryz.underlying132,typeAq,zJq];rw[o];have q:=(zEK d (.string s) _).2 ⟨s,rfl,g,rfl⟩;have u:=(zEK d (.string n) _).2 ⟨n,rfl,h,rfl⟩;have f:=litsAq d (.string s) (.string n);rw[q,u]at f;simp[Value.cells,f,aqL]
theorem zI1 {x y:ByteArray×ByteArray}(u:x.1.size<=maxLen)(g:x.2.size<=maxLen)(v:y.1.size<=maxLen)(o:y.2.size<=maxLen)(h:aqL x=aqL y):x=y:=by
 have q:=keyQ u g;have z:=keyQ v o;rw[h]at q;have f:=lawQ.inj q z;simp at f;obtain⟨a,b⟩:=x;obtain⟨c,d⟩:=y;simp only at f;rw[f.1,f.2]
def QMap (w:World)(mb:Nat)(g:ByteArray×ByteArray->Option Value)(N:Nat):Prop:=
 ∃ (D:DataW Value) (n:Nat),n<=N/\w.ownsMap Tryz.prog 132 heldV mb n D/\∀ x:ByteArray×ByteArray,x.1.size<=maxLen->x.2.size<=maxLen->has D (aqL x)=(g x).isSome/\∀ v,g x=some v->∀ z,D.atKey (aqL x) z=.held v
theorem QMap.lt {w:World}{f:Nat}{g:ByteArray×ByteArray->Option Value}{N:Nat}(h:QMap w f g N):f<w.heap.size:=by obtain⟨D,n,_,o,_⟩:=h;exact o.lt
theorem QMap.fr {S:Nat->Prop}{w w':World}{f:Nat}{g:ByteArray×ByteArray->Option Value}{N:Nat}(h:QMap w f g N)(o:Fr S w w')(q:¬ S f):QMap w' f g N:=by
 obtain⟨D,n,u,v,r⟩:=h;exact⟨D,n,u,o.ownsMap v q,r⟩
theorem QMap.made (w:World):QMap (w.alloc (.map #[] 0)) w.heap.size (fun _=>none) 0:=⟨.map [],0,Nat.le_refl _,World.ownsMap_made _ _ _ _,fun _ _ _=>⟨rfl,fun _ h=>by cases h⟩⟩
theorem QMap.look {w:World}{o:Nat}{g:ByteArray×ByteArray->Option Value}{N:Nat}(h:QMap w o g N){t e:TypeId}{z:Value}(y:(zeroValue e).run Tryz.prog w=.ok z w)(A:Tryz.prog.underlying t=some (.map 132 e))
  {s:ByteArray} {n:ByteArray} (q:s.size<=maxLen) (u:n.size<=maxLen):(Instr.lookup t (.map (some o)) (.agg #[.string s,.string n]) false).run Tryz.prog w=.ok ((g (s,n)).getD z) w:=by
 obtain⟨D,m,_,C,F⟩:=h;obtain⟨I,J⟩:=F (s,n) q u;obtain⟨v,O,f,L⟩:=C.lookup lawQ A y (zd:=.held z) (zp:=[]) rfl (keyQ q u);rw[f,zEP I J L]
theorem zEO (x:ByteArray×ByteArray):WideAt.IsKeyLit (aqL x):=trivial
def updQ (g:ByteArray×ByteArray->Option Value)(x:ByteArray×ByteArray)(v:Value):ByteArray×ByteArray->Option Value:=fun y=>if y=x then some v else g y
theorem zCk {w:World}{q:Array Oper}{f:List Oper}{o:Oper}{a:Act}{Q:Exit->Act->World->Prop}(X:o.guard=none)(m x v:Operand)(t e:TypeId)(L:o.op=Op.mapUpdate t m x v)(Y:Tryz.prog.underlying t=some (.map 132 e))
  (A:Nat) (g:ByteArray×ByteArray->Option Value) (N:Nat) (hN:N<maxLen) (s:ByteArray) (n:ByteArray) (R:s.size<=maxLen) (U:n.size<=maxLen) (u:Value) (Z:a.eval m=.map (some A)) (C:QMap w A g N) (hx:a.eval x=.agg #[.string s,.string n]) (F:a.eval v=u)
  (hK:∀ w',QMap w' A (updQ g (s,n) u) (N+1)->Fr (Is A) w w'->wpList Tryz.prog q Q f (a.put o.dst undef) w'):wpList Tryz.prog q Q (o::f) a w:=by
 obtain⟨D,k,hk,O,hh⟩:=C;refine wpList_mapUpdate_own w X m x v t L 132 e lawQ Y heldV A k D Z O (by omega) _ _ _ hx F (keyQ R U) (.held u) [] rfl (fun w' h h'=>hK w' ⟨_,k+1,by omega,h,fun y V I=>?_⟩ (Fr.of_grown_some h'));obtain⟨h1,h2⟩:=hh y V I;unfold updQ;by_cases e:y=(s,n)
 ·subst e;rw[if_pos rfl];exact⟨by rw[has_put_same O.isMap (zEO _) _];rfl,fun v F z=>by cases F;rw[atKey_put_same O.isMap (zEO _) _ _]⟩
 ·rw[if_neg e];have J:aqL y≠aqL (s,n):=fun he=>e (zI1 V I R U he)
  exact⟨by rw[has_put_other J];exact h1,fun v F z=>by rw[atKey_put_other J];exact h2 v F z⟩
end Go.Proofs.YtinfjnndbfahhaaGreatDoor
