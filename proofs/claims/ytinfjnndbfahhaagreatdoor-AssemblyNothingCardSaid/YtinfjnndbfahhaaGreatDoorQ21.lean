import Derived.Test.YtinfjnndbfahhaaGreatDoorQ20
namespace Go.Proofs.YtinfjnndbfahhaaGreatDoor
open Go.RowKit Go.Maps
set_option linter.unusedVariables false
set_option maxRecDepth 100000
set_option maxHeartbeats 2000000
structure Env (w:World):Prop where
 len:∃ m,w.cell? ⟨0,0,none⟩=some (.int .i64 m)
 err:ErrV w
 tab:Lib.TabIs Tryz.prog w "internal/strconv.uint64pow10" .u64 Lib.pow10Tab
 sz:9<=w.heap.size
theorem zJE : Tryz.prog.globalNamed "internal/strconv.uint64pow10" = some 6:=by kernel_rfl
theorem Env.fr {S:Nat->Prop}{w w':World}(h:Env w)(f:Fr S w w')(g:∀ b,b<9->¬ S b):Env w':=by
 obtain⟨m,o⟩:=h.len;have y:=h.sz;have q:=f.size;refine⟨⟨m,f.cell o (g _ (by decide))⟩,h.err.fr f (g _ (by decide)) (g _ (by decide)),?_,by omega⟩;have u:=h.tab;have v:=f.block 6 (by omega) (g _ (by decide));have e:w'.var? Tryz.prog "internal/strconv.uint64pow10" = w.var? Tryz.prog "internal/strconv.uint64pow10" := by
  unfold World.var?;rw[zJE];simp only[Option.bind_some,v]
 unfold Lib.TabIs at *;rw[e];exact u
theorem Env.no {w w':World}(h:Env w)(f:Fr No w w'):Env w':=h.fr f (fun _ _=>id)
structure Cur (w:World)(pb:Nat)(s:ByteArray)(r:List UInt8)(bad:Bool):Prop where
 blk:∃ at_:Nat,w.heap[pb]?=some (.cells #[.string s,.int .i64 (at_:Int),.bool bad] 319 (0,0))/\at_<=s.size/\s.data.toList.drop at_=r
theorem Cur.fr {S:Nat->Prop}{w w':World}{g:Nat}{s:ByteArray}{r:List UInt8}{f:Bool}(h:Cur w g s r f)(o:Fr S w w')(q:¬ S g):Cur w' g s r f:=by
 obtain⟨a,u,v,y⟩:=h.blk;exact⟨a,o.heap u q,v,y⟩
theorem Cur.no {w w':World}{g:Nat}{s:ByteArray}{r:List UInt8}{f:Bool}(h:Cur w g s r f)(o:Fr No w w'):Cur w' g s r f:=h.fr o id
theorem Cur.lt {w:World}{g:Nat}{s:ByteArray}{r:List UInt8}{f:Bool}(h:Cur w g s r f):g<w.heap.size:=by
 obtain⟨a,o,q,u⟩:=h.blk;exact zC o
theorem Cur.le {w:World}{g:Nat}{s:ByteArray}{r:List UInt8}{f:Bool}(h:Cur w g s r f):r.length<=s.size:=by
 obtain⟨a,o,q,rfl⟩:=h.blk;have:s.data.toList.length=s.size:=(Lib.size_eq s).symm;simp only[List.length_drop];omega
theorem zGr (ends:List UInt8):∀ r:List UInt8,(Lib.indexAny r ends=-1/\upto ends r=r/\past ends r=[])\/∃ k:Nat,Lib.indexAny r ends=(k:Int)/\k<r.length/\upto ends r=r.take k/\past ends r=r.drop k
 | []=>.inl ⟨rfl,rfl,rfl⟩
 | b::l=>by
  rw[Lib.indexAny];by_cases h:ends.contains b=true
  ·rw[if_pos h];refine .inr ⟨0,rfl,by simp,?_,?_⟩
   ·simp only[upto,List.takeWhile_cons,h];simp
   ·simp only[past,List.dropWhile_cons,h];simp
  ·have g:ends.contains b=false:=by simpa using h
   rw[if_neg h];rcases zGr ends l with⟨o,q,f⟩ | ⟨k,o,q,f,u⟩
   ·rw[o];refine .inl ⟨rfl,?_,?_⟩
    ·simp only[upto,List.takeWhile_cons,g,Bool.not_false,if_true]at q ⊢;rw[q]
    ·simp only[past,List.dropWhile_cons,g,Bool.not_false,if_true]at f ⊢;rw[f]
   ·rw[o];refine .inr ⟨k+1,?_,by simp;omega,?_,?_⟩
    ·rw[if_neg (by simp)];rfl
    ·simp only[upto,List.takeWhile_cons,g,Bool.not_false,if_true]at f ⊢;rw[f];rfl
    ·simp only[past,List.dropWhile_cons,g,Bool.not_false,if_true]at u ⊢;rw[u];rfl
theorem zEX (f:Nat)(s ends:ByteArray)(r:List UInt8)(y:Bool)(w:World)(hc:Cur w f s r y)(he:Ascii ends)(hs:s.size<=1000000)(a5:ends.size<=1000):
  Calls Tryz.prog 271 #[.pointer (some ⟨f,0,none⟩),.string ends] w fun e w'=>e=.returned (.string ⟨(upto ends.data.toList r).toArray⟩)/\Cur w' f s (past ends.data.toList r) y/\Fr (Is f) w w':=by
 obtain⟨a,hb,a6,hr⟩:=hc.blk;have a3:(a:Int)<=s.size:=by omega
 have a7:s.data.toList.length=s.size:=(Lib.size_eq s).symm;have C:(s.extract a s.size).data.toList=r:=by rw[Lib.extract_to_end];exact hr
 obtain⟨q,hq⟩:∃ q,q=s.extract a s.size:=⟨_,rfl⟩
 have I:q.data.toList=r:=by rw[hq];exact C
 have a8:q.size<=1000000:=by
  have z:q.data.toList.length=q.size:=(Lib.size_eq q).symm;have R:=hc.le;rw[I]at z;omega
 have U:=zGr ends.data.toList r;have Hq:=zh hq;have A:=zh I;have Hr:=zh hr;clear C hq I hr
 go_enter Tryz.func271,Tryz.ntmps271
 go_wp2_with fail
 refine zQ No [(0,false),(1,false),(2,false),(3,false),(4,false),(5,false),(6,false),(7,false),(8,false),(9,false)] (by kernel_rfl) (by kernel_rfl) (fun w0 J=>?_);have L:=J.heap hb id;have g0:∀ g:Gr No w0,g.W.cell? ⟨f,0,none⟩=some (.string s):=fun g=>g.fr.cell (zB L 0) id
 have g1:∀ g:Gr No w0,g.W.cell? ⟨f,1,none⟩=some (.int .i64 (a:Int)):=fun g=>g.fr.cell (zB L 1) id
 repeat (apply zS rfl rfl rfl;intro K hK;go_big_quiet_op;go_big_quiet_on)
 refine zY ?_;clear g0 g1;rw[<-Hq.out];have D:Fr No w w0:=J
 go_wp2_with fail
 refine(zGu q ends _ (by omega) (by omega) he).mono ?_;rintro e V ⟨rfl,F⟩;have u:Fr No w V:=D.step F zi;have o:=u.heap hb id;have c1:V.cell? ⟨f,1,none⟩=some (.int .i64 (a:Int)):=zB o 1;have z1:V.frozen? ⟨f,1,none⟩=false:=zE o 1;have X:q.data.toList.length=q.size:=(Lib.size_eq q).symm;have N:r.length=q.size:=by rw[<-A.out];exact X
 have a9:a+q.size=s.size:=by
  have z:=congrArg List.length Hr.out;rw[List.length_drop]at z;omega
 rw[A.out];have Y:∀ k:Nat,k<=q.size->Hid (q.extract 0 k=⟨(r.take k).toArray⟩/\∀ W,Fr No w W->W.heap[f]?=some (.cells #[.string s,.int .i64 (a:Int),.bool y] 319 (0,0))->Cur (W.setCell ⟨f,1,none⟩ (.int .i64 ((a:Int)+k))) f s (r.drop k) y/\Fr (Is f) w (W.setCell ⟨f,1,none⟩ (.int .i64 ((a:Int)+k)))):=by
  intro k hk;refine⟨?_,fun W hW a2=>⟨⟨a+k,?_,by omega,?_⟩,?_⟩⟩
  ·apply ByteArray.ext;apply Array.ext';rw[Lib.extract_from_zero,A.out]
  ·rw[zF a2];rfl
  ·rw[<-Hr.out,List.drop_drop]
  ·exact(hW.mono (T:=Is f) zn).setAt _
 have h:=zh Y;clear F D J L X Y;rcases U with⟨z,R,Z⟩ | ⟨k,z,R,Z,h4⟩
 ·rw[z];have a4:((q.size:Nat):Int)<=q.size:=Int.le_refl _;have Hk:=zh ((h.out q.size (Nat.le_refl _)).out);have He:Hid (q=⟨(upto ends.data.toList r).toArray⟩/\r.drop q.size=past ends.data.toList r):=by
   unfold Hid;refine⟨?_,by rw[Z,<-N,List.drop_length]⟩;rw[R,<-A.out]
  have v:=zh (And.intro u o);clear z R Z u o h N
  go_wp2_with fail
  go_ret;have O:=Hk.out.2 V v.out.1 v.out.2;rw[He.out.2]at O;exact⟨by show Ending.returned (.string q)=_;rw[<-He.out.1],O.1,O.2⟩
 ·rw[z];have b0:k<q.size:=by omega
  have b1:(k:Int)<=q.size:=by omega
  have Hk:=zh ((h.out k (by omega)).out);have He:Hid (q.extract 0 k=⟨(upto ends.data.toList r).toArray⟩/\r.drop k=past ends.data.toList r):=by
   unfold Hid;rw[Hk.out.1,Z,h4];exact⟨rfl,rfl⟩
  have v:=zh (And.intro u o);clear z R Z h4 u o h N
  go_wp2_with fail
  go_ret;have O:=Hk.out.2 V v.out.1 v.out.2;rw[He.out.2]at O;exact⟨by show Ending.returned (.string (q.extract 0 k))=_;rw[He.out.1],O.1,O.2⟩
theorem zFV (b:UInt8)(r:List UInt8):Lib.hasPrefix r [b]=(zU b r).isSome:=by
 cases r with
 | nil=>rfl
 | cons x t=>
  simp only[Lib.hasPrefix,zU,List.isPrefixOf];by_cases h:x=b
  ·subst h;simp
  ·have f:(b==x)=false:=by simpa using fun e=>h e.symm
   simp[h,f]
theorem zHt {b:UInt8}{r t:List UInt8}(h:zU b r=some t):t=r.drop 1:=by rw[zg h];rfl
theorem zKQ (h:Nat)(s:ByteArray)(b:UInt8)(r:List UInt8)(v:Bool)(w:World)(A:Cur w h s r v)(hs:s.size<=1000000):
  Calls Tryz.prog 301 #[.pointer (some ⟨h,0,none⟩),.string ⟨#[b]⟩] w fun e w'=>e=.returned (.bool (zU b r).isSome)/\Cur w' h s ((zU b r).getD r) v/\Fr (Is h) w w':=by
 obtain⟨a,R,U,C⟩:=A.blk;have J:(a:Int)<=s.size:=by omega
 have V:=A.le;have X:s.data.toList.length=s.size:=(Lib.size_eq s).symm;obtain⟨q,F⟩:∃ q,q=s.extract a s.size:=⟨_,rfl⟩
 have y:q.data.toList=r:=by rw[F,Lib.extract_to_end];exact C
 have u:Lib.hasPrefix q.data.toList (⟨#[b]⟩:ByteArray).data.toList=(zU b r).isSome:=by rw[y];exact zFV b r
 have L:r.length=s.size-a:=by rw[<-C,List.length_drop];omega
 have Y:=zh F;have Z:=zh C;have z:=zh u;have Hc:=zh A;clear F y C u A
 go_enter Tryz.func301,Tryz.ntmps301
 go_wp2_with fail
 refine zQ No [(0,false),(1,false),(2,false),(3,false),(4,false),(5,false),(6,false),(7,false),(8,false),(9,false),(10,true),(11,false)] (by kernel_rfl) (by kernel_rfl) (fun N o=>?_);have f:=o.heap R id;have g0:∀ g:Gr No N,g.W.cell? ⟨h,0,none⟩=some (.string s):=fun g=>g.fr.cell (zB f 0) id
 have g1:∀ g:Gr No N,g.W.cell? ⟨h,1,none⟩=some (.int .i64 (a:Int)):=fun g=>g.fr.cell (zB f 1) id
 repeat (apply zS rfl rfl rfl;intro K O;go_big_quiet_op;go_big_quiet_on)
 clear g0 g1;rw[<-Y.out];apply zk;exact rfl
 go_wp2_with fail
 refine(Tryz.strings_HasPrefix q ⟨#[b]⟩ _).mono ?_;rintro e D ⟨rfl,rfl⟩;rw[z.out];have c1:D.cell? ⟨h,1,none⟩=some (.int .i64 (a:Int)):=zB f 1;have z1:D.frozen? ⟨h,1,none⟩=false:=zE f 1;cases hk:zU b r with
 | none=>
  have H:=zh (And.intro (Hc.out.no o) (o.mono (T:=Is h) zn));have I:=zh hk;clear hk f o;simp only[Option.isSome_none]
  go_wp2_with fail
  refine zq ?_
  repeat (apply zS rfl rfl rfl;intro K O;go_big_quiet_op;go_big_quiet_on)
  refine zY ?_
  go_wp2_with fail
  go_ret;rw[I.out];exact⟨rfl,H.out.1,H.out.2⟩
 | some t=>
  have a2:1<=r.length:=by rw[zg hk];simp
  have H:Hid (Cur (D.setCell ⟨h,1,none⟩ (.int .i64 ((a:Int)+1))) h s t v/\Fr (Is h) w (D.setCell ⟨h,1,none⟩ (.int .i64 ((a:Int)+1)))):=by
   refine⟨⟨a+1,?_,by omega,?_⟩,?_⟩
   ·rw[zF f];rfl
   ·rw[zHt hk,<-Z.out,List.drop_drop]
   ·exact(o.mono (T:=Is h) zn).setAt _
  have I:=zh hk;clear hk f o;simp only[Option.isSome_some]
  go_wp2_with fail
  refine zq ?_
  repeat (apply zS rfl rfl rfl;intro K O;go_big_quiet_op;go_big_quiet_on)
  refine zY ?_
  go_wp2_with fail
  go_ret;rw[I.out];exact⟨rfl,H.out.1,H.out.2⟩
theorem zB5 (g:Nat)(s:ByteArray)(b:UInt8)(r:List UInt8)(f:Bool)(w:World)(F:Cur w g s r f)(J:s.size<=1000000):
  Calls Tryz.prog 272 #[.pointer (some ⟨g,0,none⟩),.string ⟨#[b]⟩] w fun e w'=>e=.returned (.tuple #[])/\Cur w' g s ((zU b r).getD r) (f||(zU b r).isNone)/\Fr (Is g) w w':=by
 go_enter Tryz.func272,Tryz.ntmps272
 go_wp2_with fail
 refine(zKQ g s b r f _ F J).mono ?_;rintro e C ⟨rfl,q,u⟩;generalize y:(zU b r).getD r=r' at *;have z:=zh y;clear y;obtain⟨a,o,D,I⟩:=q.blk;have L:C.cell? ⟨g,2,none⟩=some (.bool f):=zB o 2;have N:C.frozen? ⟨g,2,none⟩=false:=zE o 2;have H:Hid (∀ v:Bool,Cur (C.setCell ⟨g,2,none⟩ (.bool v)) g s r' v/\Fr (Is g) w (C.setCell ⟨g,2,none⟩ (.bool v))):=by
  intro v;refine⟨⟨a,?_,D,I⟩,u.setAt _⟩;rw[zF o];rfl
 clear o q u I F;cases hk:zU b r with
 | none=>
  have A:=zh hk;clear hk;simp only[Option.isSome_none]
  go_wp2_with fail
  go_end0
  rw[A.out];have h:=H.out true;exact⟨rfl,by have e:=z.out;rw[A.out]at e;rw[e];show Cur _ g s r' (f||true);rw[Bool.or_true];exact h.1,h.2⟩
 | some t=>
  have A:=zh hk;clear hk;simp only[Option.isSome_some]
  go_wp2_with fail
  go_end0
  rw[A.out];have h:=H.out f;exact⟨rfl,by have e:=z.out;rw[A.out]at e;rw[e];show Cur _ g s r' (f||false);rw[Bool.or_false];exact h.1,h.2⟩
def NumIs (r r':List UInt8)(bad bad':Bool)(n:Int):Prop:=(bad=true->bad'=true)/\(bad=false->(pNum r=none/\bad'=true)\/(pNum r=some (n,r')/\bad'=false))
theorem zIB : Ascii ⟨#[47,40,44,41,58]⟩:=fun j b f=>by
 have h:∀ x∈([47,40,44,41,58]:List UInt8),x.toNat<128:=by decide
 exact h b (List.mem_of_getElem? f)
theorem zB6 (f:Nat)(s:ByteArray)(r:List UInt8)(o:Bool)(w:World)(hc:Cur w f s r o)(hs:s.size<=900)(hE:Env w)(h9:9<=f):
  Calls Tryz.prog 273 #[.pointer (some ⟨f,0,none⟩)] w fun e w'=>∃ n r' D,e=.returned (.int .i64 n)/\r'.length<=r.length/\Cur w' f s r' D/\NumIs r r' o D n/\Fr (Is f) w w':=by
 go_enter Tryz.func273,Tryz.ntmps273
 go_wp2_with fail
 refine(zEX f s ⟨#[47,40,44,41,58]⟩ r o _ hc zIB (by omega) (by decide)).mono ?_;rintro e w1 ⟨rfl,I,J⟩;have Y:=zAM [47,40,44,41,58] r;have Z:pNum r=(match Lib.atoiAll (upto [47,40,44,41,58] r)with | .ok v=>if Lib.itoa v=upto [47,40,44,41,58] r then some (v,past [47,40,44,41,58] r)else none | _=>none):=rfl;have e5:(⟨#[47,40,44,41,58]⟩:ByteArray).data.toList=[47,40,44,41,58]:=rfl;rw[e5]at I ⊢;generalize upto [47,40,44,41,58] r=dl at *;generalize past [47,40,44,41,58] r=r' at *;have b4:=hc.le;have a2:dl.length<=900/\r'.length<=r.length:=by
  have:=congrArg List.length Y;rw[List.length_append]at this;omega
 obtain⟨u,L⟩:∃ u,u=(⟨dl.toArray⟩:ByteArray):=⟨_,rfl⟩
 rw[<-L];have O:u.data.toList=dl:=by rw[L]
 have b0:u.size<=1000:=by
  have R:u.data.toList.length=u.size:=(Lib.size_eq u).symm;rw[O]at R;omega
 have U:=hE.fr J (fun b hb h=>by unfold Is at h;omega);have a3:=zh O;have a4:=zh Z;have g:=zh a2.2;clear L Y e5 hc O Z a2
 go_wp2_with fail
 refine(zGp u _ b0 U.err).mono ?_;rintro e y ⟨hR,z⟩;unfold AtoiR at hR;rw[a3.out]at hR;have a5:=I.no z;have b1:=U.no z;obtain⟨a,q,b2,hr⟩:=a5.blk;have F:=J.step z zn;have H:Hid (∀ (W:World) (v:Bool),Fr No y W->Cur (W.setCell ⟨f,2,none⟩ (.bool v)) f s r' v/\Fr (Is f) w (W.setCell ⟨f,2,none⟩ (.bool v))):=by
  intro W v hW;refine⟨⟨a,?_,b2,hr⟩,(F.step hW zn).setAt _⟩;rw[zF (hW.heap q id)];rfl
 have c2:y.cell? ⟨f,2,none⟩=some (.bool o):=zB q 2;have z2:y.frozen? ⟨f,2,none⟩=false:=zE q 2;have b3:=zh q;clear I a5 J z F U hr q;cases o with
 | true=>
  rcases hR with⟨v,A,rfl⟩ | ⟨A,k,te,N,rfl⟩
  all_goals
   clear A
   go_wp2_with fail
   go_ret;have h:=H.out y true (Fr.refl _ _);exact⟨_,r',true,rfl,g.out,h.1,⟨(fun _=>rfl),(fun h=>by cases h)⟩,h.2⟩
 | false=>
  rcases hR with⟨v,A,rfl⟩ | ⟨A,k,te,N,rfl⟩
  ·have a6:=Lib.atoiAll_bounds A;have Hn:Hid (pNum r=if Lib.itoa v=dl then some (v,r')else none):=by unfold Hid;rw[a4.out,A]
   clear A
   go_wp2_with fail
   refine(Tryz.strconv_Itoa v a6.1 a6.2 _ b1.tab).mono ?_;rintro e w3 ⟨rfl,kk,os,rfl⟩;have C:Fr No y (Go.Sort.grow (y.drewN kk) os):=Fr.of_below_size (Lib.below_grow _ y (Nat.le_refl _) kk os);generalize Go.Sort.grow (y.drewN kk) os=w3 at *;have c3:w3.cell? ⟨f,2,none⟩=some (.bool false):=C.cell c2 id;have z3:w3.frozen? ⟨f,2,none⟩=false:=zE (C.heap b3.out id) 2;obtain⟨it,V⟩:∃ it,it=(⟨(Lib.itoa v).toArray⟩:ByteArray):=⟨_,rfl⟩
   rw[<-V];have a7:Hid ((it.toList==u.toList)=decide (Lib.itoa v=dl)):=by
    unfold Hid;rw[V,Bool.eq_iff_iff,beq_iff_eq,decide_eq_true_iff,ByteArray.toList_eq,ByteArray.toList_eq,a3.out]
   have a8:=zh C;clear V C c2 z2;rcases hie:(it.toList==u.toList)with _ | _
   ·have X:Hid (pNum r=none):=by
     unfold Hid;have R:=a7.out;rw[hie]at R;rw[Hn.out,if_neg (of_decide_eq_false R.symm)]
    go_wp2_with fail
    go_ret;have h:=H.out w3 true a8.out;exact⟨_,r',true,rfl,g.out,h.1,⟨fun _=>rfl,fun _=>.inl ⟨X.out,rfl⟩⟩,h.2⟩
   ·have a9:Hid (pNum r=some (v,r')):=by
     unfold Hid;have R:=a7.out;rw[hie]at R;rw[Hn.out,if_pos (of_decide_eq_true R.symm)]
    go_wp2_with fail
    go_ret;have h:=H.out w3 false a8.out;exact⟨_,r',false,rfl,g.out,h.1,⟨(fun h=>by cases h),(fun _=>.inr ⟨a9.out,rfl⟩)⟩,h.2⟩
  ·have X:Hid (pNum r=none):=by
    unfold Hid;rw[a4.out];split
    ·rename_i v e;exact absurd e (A v)
    ·rfl
   clear A
   go_wp2_with fail
   go_ret;have h:=H.out y true (Fr.refl _ _);exact⟨_,r',true,rfl,g.out,h.1,⟨fun _=>rfl,fun _=>.inl ⟨X.out,rfl⟩⟩,h.2⟩
inductive CAt (w:World)(X:Nat->Prop):Array Value->Ct->Prop
 | mk (k:Int) (i l:ByteArray) (s t e:Int) (n:List Ct) (a:Option Addr) (cap:Nat) (vs:Nat->Array Value)
  (h1:n.length<=cap) (h2:cap<=maxLen) (h3:a=none->n=[]/\cap=0)
  (h4:∀ ad,a=some ad->n≠[]->ad.spot=none/\ad.block<w.heap.size/\X ad.block)
  (h5:∀ ad j d,a=some ad->n[j]?=some d->∀ q,q<7->w.cell? ⟨ad.block,ad.off+(j*7+q),none⟩=(vs j)[q]?)
  (h6:∀ j d,n[j]?=some d->CAt w X (vs j) d):
  CAt w X #[.int .i64 k,.string i,.string l,.int .i64 s,.int .i64 t,.int .i64 e,.slice a n.length cap] (.mk k i l s t e n)
theorem CAt.fr {w w':World}{X S:Nat->Prop}{f:Array Value}{c:Ct}(h:CAt w X f c)(C:Fr S w w')(I:∀ b,X b->¬ S b):CAt w' X f c:=by
 induction h with
 | mk k i l s t e n a u f J L N D O V R=>
  refine .mk k i l s t e n a u f J L N (fun g o v=>?_) (fun g j d o y q U=>?_) R
  ·obtain⟨F,z,A⟩:=D g o v;exact⟨F,Nat.lt_of_lt_of_le z C.size,A⟩
  ·obtain⟨F,z,A⟩:=D g o (fun e=>by rw[e]at y;simp at y);rw[<-O g j d o y q U];exact World.cell?_of_block (C.block _ z (I _ A))
theorem CAt.no {w w':World}{X:Nat->Prop}{f:Array Value}{c:Ct}(h:CAt w X f c)(g:Fr No w w'):CAt w' X f c:=h.fr g (fun _ _=>id)
theorem CAt.mono {w:World}{X Y:Nat->Prop}{f:Array Value}{c:Ct}(h:CAt w X f c)(u:∀ b,b<w.heap.size->X b->Y b):CAt w Y f c:=by
 induction h with
 | mk k i l s t e n a g f v y z A C N D=>
  refine .mk k i l s t e n a g f v y z (fun F I o=>?_) C D;obtain⟨J,q,L⟩:=A F I o;exact⟨J,q,u _ q L⟩
theorem CAt.size {w:World}{X:Nat->Prop}{f:Array Value}{c:Ct}(h:CAt w X f c):f.size=7:=by
 cases h;rfl
structure InAt (w:World)(X:Nat->Prop)(a:Option Addr)(cap:Nat)(cs:List Ct):Prop where
 len:cs.length<=cap
 max:cap<=maxLen
 isNil:a=none->cs=[]/\cap=0
 el:∃ vs:Nat->Array Value,(∀ ad,a=some ad->cs≠[]->ad.spot=none/\ad.block<w.heap.size/\X ad.block)/\(∀ ad j d,a=some ad->cs[j]?=some d->∀ q,q<7->w.cell? ⟨ad.block,ad.off+(j*7+q),none⟩=(vs j)[q]?)/\∀ j d,cs[j]?=some d->CAt w X (vs j) d
theorem InAt.nil (w:World)(X:Nat->Prop):InAt w X none 0 []:=⟨by simp,by simp,fun _=>⟨rfl,rfl⟩,fun _=>#[],fun _ e=>(by cases e),fun _ _ _ e=>(by cases e),fun j d h=>by simp at h⟩
theorem CAt.of_in {w:World}{X:Nat->Prop}{a:Option Addr}{f:Nat}{cs:List Ct}(h:InAt w X a f cs)(k:Int)(i l:ByteArray)(s t e:Int):CAt w X #[.int .i64 k,.string i,.string l,.int .i64 s,.int .i64 t,.int .i64 e,.slice a cs.length f] (.mk k i l s t e cs):=by
 obtain⟨g,o,q,u⟩:=h.el;exact .mk k i l s t e cs a f g h.len h.max h.isNil o q u
theorem InAt.fr {w w':World}{X S:Nat->Prop}{a:Option Addr}{f:Nat}{cs:List Ct}(h:InAt w X a f cs)(v:Fr S w w')(C:∀ b,X b->¬ S b):InAt w' X a f cs:=by
 obtain⟨I,D,J,L⟩:=h.el;refine⟨h.len,h.max,h.isNil,I,fun o u y=>?_,fun o j d u g q N=>?_,fun j d g=>(L j d g).fr v C⟩
 ·obtain⟨F,z,A⟩:=D o u y;exact⟨F,Nat.lt_of_lt_of_le z v.size,A⟩
 ·obtain⟨F,z,A⟩:=D o u (fun e=>by rw[e]at g;simp at g);rw[<-J o j d u g q N];exact World.cell?_of_block (v.block _ z (C _ A))
theorem InAt.mono {w:World}{X Y:Nat->Prop}{a:Option Addr}{f:Nat}{cs:List Ct}(h:InAt w X a f cs)(o:∀ b,b<w.heap.size->X b->Y b):InAt w Y a f cs:=by
 obtain⟨u,v,y,z⟩:=h.el;refine⟨h.len,h.max,h.isNil,u,fun A C g=>?_,y,fun j d D=>(z j d D).mono o⟩;obtain⟨F,q,I⟩:=v A C g;exact⟨F,q,o _ q I⟩
structure CRow (w:World)(base:Nat)(v:Value)(cs:List Ct):Prop where
 el:∃ vl:List (Array Value),vl.length=cs.length/\w.ownsRow base 223 7 v cs.length (vl.flatMap Array.toList)/\∀ (j:Nat) (vs:Array Value) (c:Ct),vl[j]?=some vs->cs[j]?=some c->CAt w (fun b=>base<=b/\v.ownBlock≠some b) vs c
theorem CRow.nil (w:World)(f:Nat):CRow w f (.slice none 0 0) []:=⟨[],rfl,World.ownsRow_nil _ _ _ _,fun j g c h=>by simp at h⟩
theorem CRow.fr {w w':World}{S:Nat->Prop}{f:Nat}{v:Value}{cs:List Ct}(h:CRow w f v cs)(g:Fr S w w')(o:∀ b,f<=b->¬ S b):CRow w' f v cs:=by
 obtain⟨q,u,y,z⟩:=h.el;exact⟨q,u,zAK y g o,fun j A c C D=>(z j A c C D).fr g (fun b F=>o b F.1)⟩
theorem zGc : ∀ (u:List (Array Value)),(∀ f∈u,f.size=7)->∀ (j:Nat) (f:Array Value),u[j]?=some f->∀ q,q<7->(u.flatMap Array.toList)[j*7+q]?=f[q]?
 | [],_,j,f,h,q,v=>by simp at h
 | x::t,g,0,f,h,q,v=>by
  simp at h;subst h;have o:=g x (by simp);rw[List.flatMap_cons,List.getElem?_append_left (by simp[o];omega)];simp
 | x::t,g,j+1,f,h,q,v=>by
  have o:=g x (by simp);rw[List.flatMap_cons,List.getElem?_append_right (by simp[o];omega),show (j+1)*7+q-x.toList.length=j*7+q by simp[o];omega];exact zGc t (fun y z=>g y (by simp[z])) j f (by simpa using h) q v
theorem CRow.inAt {w:World}{f:Nat}{v:Value}{cs:List Ct}(h:CRow w f v cs):∃ a o,v=.slice a cs.length o/\InAt w (From f) a o cs:=by
 obtain⟨u,L,N,J⟩:=h.el;have O:∀ D∈u,D.size=7:=fun D F=>by
  obtain⟨j,y⟩:=List.getElem?_of_mem F;have z:j<cs.length:=by rw[<-L];exact(List.getElem?_eq_some_iff.1 y).1
  exact(J j D cs[j] y (List.getElem?_eq_getElem z)).size
 obtain⟨_,⟨rfl,R⟩ | ⟨g,o,U,rfl,V,A,X,Y,h8,Z⟩⟩:=N
 ·have:cs=[]:=List.eq_nil_of_length_eq_zero R;subst this;exact⟨none,0,rfl,InAt.nil _ _⟩
 ·refine⟨some ⟨g,0,none⟩,o,rfl,X,Y,(fun e=>by cases e),fun j=>(u[j]?).getD #[],fun ad e a2=>?_,fun ad j d e C q hq=>?_,fun j d C=>?_⟩
  ·cases e;exact⟨rfl,zC A,V⟩
  ·cases e;have z:j<cs.length:=(List.getElem?_eq_some_iff.1 C).1;have y:u[j]?=some (u[j]'(by omega)):=List.getElem?_eq_getElem (by omega);show _=((u[j]?).getD #[])[q]?
   rw[zB A,y];simp only[Nat.zero_add,Option.getD_some];rw[<-zGc u O j _ y q hq,<-Z,List.getElem?_take_of_lt (by omega),Array.getElem?_toList]
  ·have z:j<cs.length:=(List.getElem?_eq_some_iff.1 C).1;have y:u[j]?=some (u[j]'(by omega)):=List.getElem?_eq_getElem (by omega);have I:=J j _ d y C;show CAt w (From f) ((u[j]?).getD #[]) d
   rw[y];exact I.mono (fun b _ A=>A.1)
theorem CRow.push {w F:World}{f:Nat}{v z:Value}{cs:List Ct}{o:Array Value}{c:Ct}(U:CAt w (From f) o c)(I:∀ b,v.ownBlock=some b->CAt w (fun R=>f<=R/\R≠b) o c)
  {A:List (Array Value)} (V:A.length=cs.length) (X:∀ (j:Nat) (o:Array Value) (c:Ct),A[j]?=some o->cs[j]?=some c->CAt w (fun b=>f<=b/\v.ownBlock≠some b) o c)
  (C:F.ownsRow f 223 7 z (cs.length+1) (A.flatMap Array.toList++o.toList)) (Z:Fr (fun b=>v.ownBlock=some b) w F) (J:z.ownBlock=v.ownBlock\/∃ g,z.ownBlock=some g/\w.heap.size<=g):CRow F f z (cs++[c]):=by
 have D:∀ o c,CAt w (fun b=>f<=b/\v.ownBlock≠some b) o c->CAt F (fun b=>f<=b/\z.ownBlock≠some b) o c:=by
  intro o c h;have h4:=h.mono (Y:=fun b=>(f<=b/\v.ownBlock≠some b)/\b<w.heap.size) (fun b q hx=>⟨hx,q⟩);have h5:=h4.fr Z (fun b q=>q.1.2);refine h5.mono (fun b _ q=>⟨q.1.1,?_⟩);rcases J with e | ⟨g,e,hg⟩
  ·rw[e];exact q.1.2
  ·rw[e];intro h;cases h;omega
 have L:CAt w (fun b=>f<=b/\v.ownBlock≠some b) o c:=by
  cases hob:v.ownBlock with
  | none=>exact U.mono (fun b _ q=>⟨q,by simp⟩)
  | some g=>exact(I g hob).mono (fun b _ q=>⟨q.1,fun e=>q.2 (Option.some.inj e).symm⟩)
 refine⟨A++[o],by simp[V],?_,fun j N c' u y=>?_⟩
 ·rw[List.flatMap_append]
  simpa using C
 ·by_cases O:j<cs.length
  ·rw[List.getElem?_append_left (by omega)]at u;rw[List.getElem?_append_left O]at y;exact D _ _ (X j N c' u y)
  ·rw[List.getElem?_append_right (by omega)]at u;rw[List.getElem?_append_right (by omega)]at y;have e1:j-A.length=0:=by
    have:=(List.getElem?_eq_some_iff.1 u).1;simp at this;omega
   have e2:j-cs.length=0:=by omega
   rw[e1]at u;rw[e2]at y;simp at u y;subst u;subst y;exact D _ _ L
def CtRes (w:World)(pb:Nat)(s:ByteArray)(r:List UInt8)(n:Nat)(e:Ending)(w':World):Prop:=
 ∃ (k:Int) (i l:ByteArray) (sl t le:Int) (a:Option Addr) (m c:Nat) (r':List UInt8) (bad':Bool),e=.returned (.agg #[.int .i64 k,.string i,.string l,.int .i64 sl,.int .i64 t,.int .i64 le,.slice a m c])/\r'.length<=r.length/\Cur w' pb s r' bad'/\Fr (Is pb) w w'/\
  ((bad'=true/\pC n r=none)\/(bad'=false/\∃ ct,pC n r=some (ct,r')/\CAt w' (From w.heap.size) #[.int .i64 k,.string i,.string l,.int .i64 sl,.int .i64 t,.int .i64 le,.slice a m c] ct))
def PSpec (n:Nat):Prop:=∀ (pb:Nat) (s:ByteArray) (r:List UInt8) (w:World),r.length<n->Cur w pb s r false->s.size<=900->Env w->9<=pb->
 Calls Tryz.prog 241 #[.pointer (some ⟨pb,0,none⟩)] w (CtRes w pb s r n)
def InRes (w:World)(pb:Nat)(s:ByteArray)(r:List UInt8)(bad:Bool)(n:Nat)(e:Ending)(w':World):Prop:=
 ∃ (a:Option Addr) (m c:Nat) (r':List UInt8) (bad':Bool),e=.returned (.slice a m c)/\r'.length<=r.length/\Cur w' pb s r' bad'/\Fr (Is pb) w w'/\(bad=true->bad'=true)/\
  (bad=false->(bad'=true/\(zU 40 r).bind (pL n [])=none)\/(bad'=false/\∃ cs,(zU 40 r).bind (pL n [])=some (cs,r')/\m=cs.length/\InAt w' (From w.heap.size) a c cs))
theorem zAY {b:UInt8}(r:List UInt8):((zU b r).getD r).length<=r.length:=by
 cases h:zU b r with
 | none=>simp
 | some t=>rw[zg h];simp
theorem infoC : (Tryz.prog.info? 223).map (fun i=>(i.zero,i.size,i.bytes))=some (some (.agg #[.int .i64 0,.string ByteArray.empty,.string ByteArray.empty,.int .i64 0,.int .i64 0,.int .i64 0,.slice none 0 0]),7,88):=by kernel_rfl
def lenOf : Value->Nat
 | .slice _ n _=>n
 | _=>0
theorem zCt (k s t e:Int)(i l:ByteArray)(a:Option Addr)(m c:Nat):∀ u∈[Value.int .i64 k,.string i,.string l,.int .i64 s,.int .i64 t,.int .i64 e,.slice a m c],u.oneCell'=true:=by
 intro u f;simp at f;rcases f with rfl | rfl | rfl | rfl | rfl | rfl | rfl<;>rfl
theorem zFi (a:Option Addr)(n c:Nat):lenOf (.slice a n c)=n:=rfl
theorem zLV (n:Nat)(hP:∀ k,k<n->PSpec k)(q:Nat)(s:ByteArray)(r:List UInt8)(J:Bool)(w:World)(hr:r.length+1<=n)(hc:Cur w q s r J)(hs:s.size<=900)(hE:Env w)(h9:9<=q):
  Calls Tryz.prog 274 #[.pointer (some ⟨q,0,none⟩)] w (InRes w q s r J n):=by
 obtain⟨i0,f5,f6,f7,f8⟩:=info_parts infoC;have i8:=hc.lt;have i9:=hc.le
 go_enter Tryz.func274,Tryz.ntmps274
 go_wp2_with fail
 refine(zB5 q s 40 r J _ hc (by omega)).mono ?_;rintro e A ⟨rfl,b0,a3⟩;have f9:=zAY (b:=40) r;obtain⟨F,b2⟩:∃ F,F=(zU 40 r).getD r:=⟨_,rfl⟩
 rw[<-b2]at b0 f9;obtain⟨b1,b4⟩:∃ b1,b1=(J||(zU 40 r).isNone):=⟨_,rfl⟩
 rw[<-b4]at b0;have b5:=zh b2;have a4:=zh b4;have j0:=a3.size;have c6:=zh a3;have c7:=hE.fr a3 (fun b u h=>by unfold Is at h;omega);clear b2 b4 a3 hc
 go_wp2_with fail
 go_loopw [3] (fun v wr=>∃ (f:List Ct) (rr:List UInt8) (bb:Bool) (av:Option Addr) (cv:Nat) (m:Nat),v=.slice av f.length cv/\f.length+m=n/\rr.length<=F.length/\Cur wr q s rr bb/\Hid (bb=false->(rr.length+2<=m/\f.length+rr.length<=F.length)/\pL n [] F=pL m f rr/\b1=false)/\Hid (bb=true->b1=true\/pL n [] F=none)/\Hid (bb=false->CRow wr A.heap.size (.slice av f.length cv) f)/\Fr (fun b=>b=q\/A.heap.size<=b) A wr) (fun v _=>n+1-lenOf v)
 case atStart=>
  refine⟨[],F,b1,none,0,n,rfl,by simp,by omega,b0,fun h=>?_,fun h=>.inl h,fun _=>CRow.nil _ _,Fr.refl _ _⟩;have g:=a4.out;rw[h]at g;have h3:(zU 40 r).isNone=false:=by
   cases h4:(zU 40 r).isNone with
   | false=>rfl
   | true=>rw[h4,Bool.or_true]at g;cases g
  cases h5:zU 40 r with
  | none=>rw[h5]at h3;cases h3
  | some t=>
   have h6:=b5.out;rw[h5,Option.getD_some]at h6;have h7:=congrArg List.length (zg h5);rw[h6];simp at h7;exact⟨⟨by omega,by simp⟩,rfl,h⟩
 case round=>
  obtain⟨f,rr,bb,av,cv,m,rfl,hm,j1,R,H0,H1,HR,U⟩:=hrel;obtain⟨W2,rfl⟩:∃ W2,W2=wr:=⟨_,rfl⟩
  obtain⟨j2,b6,j3,j4⟩:=R.blk;have c2:W2.cell? ⟨q,2,none⟩=some (.bool bb):=zB b6 2;have j5:=U.size;have g0:Hid (Fr (Is q) w W2):=c6.out.step U (fun b u h=>by unfold Is;omega);cases bb with
  | true=>
   have V:Hid (InRes w q s r J n (.returned (.slice none 0 0)) W2):=by
    refine⟨none,0,0,rr,true,rfl,by omega,R,g0.out,fun _=>rfl,fun c8=>.inl ⟨rfl,?_⟩⟩;cases h5:zU 40 r with
    | none=>rfl
    | some t=>
     have h6:=b5.out;rw[h5,Option.getD_some]at h6;show pL n [] t=none
     rw[<-h6];rcases H1.out rfl with h | h
     ·have g:=a4.out;rw[c8,h5,h]at g;cases g
     ·exact h
   clear b6 R
   go_wp2_with fail
   go_ret;exact V.out
  | false=>
   obtain⟨⟨j6,j7⟩,c9,d0⟩:=H0.out rfl;have d1:Hid (CRow W2 A.heap.size (.slice av f.length cv) f):=HR.out rfl;obtain⟨m,rfl⟩:∃ m',m=m'+1:=⟨m-1,by omega⟩
   have d2:=c7.fr U (fun b u h=>by have:=c7.sz;omega);have b7:=zh c9;have b8:=zh d0;have i3:f.length<=n:=by omega
   have d3:=hP m (by omega) q s rr W2 (by omega) R hs d2 h9;clear b6 c9 d0 R
   go_wp2_with fail
   refine d3.mono ?_;rintro e w3 ⟨k,i,l,sl,t,le,a,mm,c,I,b3,rfl,j8,d4,a5,X⟩;have j9:=a5.size;have b9:Hid (CRow w3 A.heap.size (.slice av f.length cv) f):=d1.out.fr a5 (fun b u h=>by unfold Is at h;omega);obtain⟨vl,g1,Y,d5⟩:=b9.out.el;have d6:Fr No w3 (w3.alloc (.cells #[.int .i64 k,.string i,.string l,.int .i64 sl,.int .i64 t,.int .i64 le,.slice a mm c] 223)):=(Fr.refl _ _).alloc _;have Hc:=zh X;have g2:=zh d5;have g3:=zh (U.step a5 (fun b u h=>by unfold Is at h;omega));have g4:=zh d4;have d7:=zV (b:=0) Y;have c3:Hid (∀ b,(Value.slice av f.length cv).ownBlock=some b->b<W2.heap.size/\A.heap.size<=b):=fun b u=>by
    obtain⟨k0,_,d8,_⟩:=d1.out.el;exact⟨zV d8 u,zP d8 u⟩
   have i4:A.heap.size<=w3.heap.size:=by omega
   have i5:q<A.heap.size:=by omega
   clear X d5 d3 d4 U a5 d7
   go_wp2_with (at_builtin;refine wpList_append_own_at _ rfl _ _ 221 rfl A.heap.size 223 i0 (.agg #[.int .i64 0,.string ByteArray.empty,.string ByteArray.empty,.int .i64 0,.int .i64 0,.int .i64 0,.slice none 0 0]) 7 88 Tryz.underlying221 f5 f6 f7 f8 rfl (by decide) _ _ _ rfl (Y.alloc _) ⟨w3.heap.size,0,none⟩ 1 1 [.int .i64 k,.string i,.string l,.int .i64 sl,.int .i64 t,.int .i64 le,.slice a mm c] rfl rfl (ze _ _ _ rfl) (zCt _ _ _ _ _ _ _ _ _) (by unfold maxLen;omega) (by omega) (by simp;omega) ?_;intro v' wb C Z _ d9;obtain⟨L,N,rfl⟩:=zJ C)
   have a6:Fr (fun b=>(Value.slice av f.length cv).ownBlock=some b) w3 wb:=d6.trans (Fr.of_grown Z) zn zi;have e0:=zh a6;have e7:=zh C;have g5:=zh d9;have e8:=g4.out.fr a6 (fun h=>by have:=c3.out _ h;omega);have k1:=a6.size;clear C Z d9 a6 Y d6 d2
   go_wp2_with fail
   refine(zKQ q s 41 I b3 _ e8 (by omega)).mono ?_;rintro e w5 ⟨rfl,y,a7⟩;have k2:=a7.size;have a9:Hid (Fr (fun b=>b=q\/A.heap.size<=b) A w5):=(g3.out.step e0.out (fun b u h=>by have:=c3.out b h;omega)).step a7 (fun b u h=>by unfold Is at h;omega);have e9:Hid (Fr (Is q) w w5):=c6.out.step a9.out (fun b u h=>by unfold Is;omega)
   -- the row with the new content, if the parse went well
   have a2:Hid (∀ z,b3=false->CAt w3 (From W2.heap.size) #[.int .i64 k,.string i,.string l,.int .i64 sl,.int .i64 t,.int .i64 le,.slice a mm c] z->CRow w5 A.heap.size (.slice L (f++[z]).length N) (f++[z])):=by
    intro z _ f0;have h1:CRow wb A.heap.size (.slice L (f.length+1) N) (f++[z]):=CRow.push (f0.mono (fun b _ u=>by unfold From at *;omega)) (fun b u=>f0.mono (fun b' _ g6=>by have:=c3.out b u;unfold From at g6;exact⟨by omega,by omega⟩)) g1 g2.out e7.out e0.out (by
     rcases g5.out with h | h
     ·exact .inl h
     ·exact .inr ⟨_,h,by simp⟩)
    rw[List.length_append,List.length_singleton];exact h1.fr a7 (fun b u h=>by unfold Is at h;omega)
   cases hk:zU 41 I with
   | some r4=>
    rw[hk]at y;simp only[Option.getD_some]at y;have h7:=congrArg List.length (zg hk);simp at h7;have V:Hid (InRes w q s r J n (.returned (.slice L (f.length+1) N)) w5):=by
     refine⟨L,f.length+1,N,r4,b3,rfl,by omega,y,e9.out,fun g7=>?_,fun c8=>?_⟩
     ·have g:=a4.out;rw[g7,b8.out]at g;cases g
     ·have h6:(zU 40 r).bind (pL n [])=pL n [] F:=by
       cases h5:zU 40 r with
       | none=>have g:=a4.out;rw[h5,b8.out]at g;simp at g
       | some t0=>have h6:=b5.out;rw[h5,Option.getD_some]at h6;rw[h6];rfl
      rw[h6,b7.out,pL];rcases Hc.out with⟨h1,g⟩ | ⟨h1,z,g,h3⟩
      ·rw[g];exact .inl ⟨h1,rfl⟩
      ·rw[g];simp only[Option.bind_some,hk];refine .inr ⟨h1,f++[z],rfl,by simp,?_⟩;have f1:=a2.out z h1 h3;obtain⟨a',i6,hv,g8⟩:=f1.inAt;cases hv;exact g8.mono (fun b _ u=>by unfold From at *;omega)
    clear y hk
    go_wp2_with fail
    go_ret;exact V.out
   | none=>
    rw[hk]at y;simp only[Option.getD_none]at y;have Hk:=zh hk;clear hk
    go_wp2_with fail
    refine(zB5 q s 44 I b3 _ y (by omega)).mono ?_;rintro e w6 ⟨rfl,c4,a8⟩;have i7:=zAY (b:=44) I;have k3:=a8.size;have f2:Hid (Fr (fun b=>b=q\/A.heap.size<=b) A w6):=a9.out.step a8 (fun b u h=>by unfold Is at h;omega);have f3:∀ z,b3=false->pC m rr=some (z,I)->pL n [] F=(zU 44 I).bind fun r2=>pL m (f++[z]) r2:=by
     intro z _ g;rw[b7.out,pL,g];simp only[Option.bind_some,Hk.out]
    have f4:=zh f3
    -- what the next round has
    have c5:Hid (∃ (o:List Ct) (D:List UInt8) (O:Bool),o.length=f.length+1/\D.length<=F.length/\Cur w6 q s D O/\(O=false->(D.length+2<=m/\o.length+D.length<=F.length)/\pL n [] F=pL m o D/\b1=false)/\(O=true->b1=true\/pL n [] F=none)/\(O=false->CRow w6 A.heap.size (.slice L o.length N) o)):=by
     rcases Hc.out with⟨h1,g⟩ | ⟨h1,z,g,h3⟩
     ·subst h1;have g9:pL n [] F=none:=by rw[b7.out,pL,g];rfl
      exact⟨f++[Ct.zero],(zU 44 I).getD I,(true||(zU 44 I).isNone),by simp,by omega,c4,(fun h=>by cases h),(fun _=>.inr g9),(fun h=>by cases h)⟩
     ·subst h1;refine⟨f++[z],(zU 44 I).getD I,(false||(zU 44 I).isNone),by simp,by omega,c4,fun h=>?_,fun h=>?_,?_⟩
      ·cases h4:zU 44 I with
       | none=>rw[h4]at h;cases h
       | some r4=>
        have h7:=congrArg List.length (zg h4);simp at h7;refine⟨⟨by simp;omega,by simp;omega⟩,?_,b8.out⟩;rw[f4.out z rfl g,h4];rfl
      ·cases h4:zU 44 I with
       | none=>exact .inr (by rw[f4.out z rfl g,h4];rfl)
       | some r4=>rw[h4]at h;cases h
      ·intro _;exact(a2.out z rfl h3).fr a8 (fun b u h=>by unfold Is at h;omega)
    obtain⟨o,D,O,e1,e2,e3,e4,e5,e6⟩:=c5.out;have h0:=zh e3;have h8:=zh e4;have i1:=zh e5;have i2:=zh e6;clear c4 e3 e4 e5 e6 y a8 a7 f3 e8
    go_wp2_with fail
    go_roundw
    case rel=>exact⟨o,D,O,L,N,m,by rw[e1],by omega,e2,h0.out,h8.out,i1.out,i2.out,f2.out⟩
    case measure=>simp only[zFi];omega
end Go.Proofs.YtinfjnndbfahhaaGreatDoor
