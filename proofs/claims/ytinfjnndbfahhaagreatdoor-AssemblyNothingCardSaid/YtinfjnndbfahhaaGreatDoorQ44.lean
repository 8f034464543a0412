import Derived.Test.YtinfjnndbfahhaaGreatDoorQ43
namespace Go.Proofs.YtinfjnndbfahhaaGreatDoor
open Go.RowKit Go.Maps
set_option linter.unusedVariables false
set_option maxRecDepth 100000
set_option maxHeartbeats 8000000
structure FT (w:World)(base:Nat)(a:Option Addr)(cap:Nat)(ds:List Dev):Prop where
 tr:Tr w base a cap ds
 fl:FlatW ds
 ct:ContS w ds
 tt:TrT w a ds
 pr:∀ d∈ds,preB d.orig=true
theorem FT.no {w w':World}{f:Nat}{a:Option Addr}{g:Nat}{ds:List Dev}(h:FT w f a g ds)(o:Fr No w w'):FT w' f a g ds:=
 ⟨h.tr.no o,h.fl,h.ct.no o,h.tt.fr o (fun _ _=>id),h.pr⟩
theorem FT.vir {w:World}{f:Nat}{a:Option Addr}{g:Nat}{ds:List Dev}(h:FT w f a g ds):∀ d∈ds,virB ds d.index=true:=fun d o=>by rw[zEf h.fl o];exact h.pr d o
theorem zFm (C h:Nat)(a:Option Addr)(o:Nat)(ds:List Dev)(J:Option Addr)(L N:Nat)(O:Int)(w:World)(g:FK w C h a o ds J L N O)(U:ds.length<=1000):
  Calls Tryz.prog 11 #[.pointer (some ⟨C,0,none⟩)] w fun e w'=>(∃ A c' f,e=.returned (.agg #[.slice A (List.length f) c'])/\FT w' w.heap.size A c' f/\f.map strip=ds.map strip)/\Fr No w w':=by
 refine(zGU C a o ds J L N O w g.st.blk g.st.tr.dv U (fun d V=>(g.st.tr.el d V).att)).mono ?_;rintro e w' ⟨⟨A,c',f,rfl,X,Y,Z,q⟩,D⟩;have R:=q.strip;have u:=g.fl.map R;refine⟨⟨A,c',f,rfl,⟨zDz g.st X Z q u.ok,u,g.ct.cop q,fun b hb=>?_,fun d' F=>?_⟩,R⟩,D⟩
 ·rcases hb with⟨I,e,rfl⟩ | ⟨x,v,I,e,rfl⟩
  ·obtain⟨x,v⟩:=Y I e;exact⟨x,_,v,.inl rfl⟩
  ·obtain⟨z,_,hz⟩:=q.mem v;obtain⟨x,v⟩:=hz.typ I e;exact⟨x,_,v,.inr rfl⟩
 ·obtain⟨y,hy,hc⟩:=q.mem F;rw[hc.eq];exact(g.pr y hy).1
theorem zIZ (a q u v:Option Addr)(g y z A f:Nat)(J:Int)(ds:List Dev)(L:List Rec)(E K:List ByteArray)(w:World)(h:FT w f a g ds)(R:ds.length<=250)(U:Recs w q y L)
  (o:Env w) (C:Strs w v A E) (D:Strs w u z K) (F:K.length<=1000000) (I:∀ x∈K,x.size<=maxLen):
  Calls Tryz.prog 12 #[.agg #[.slice a ds.length g],.slice q L.length y,.agg #[.slice u K.length z,.int .i64 J],.slice v E.length A] w fun e w'=>
   (∃ N O,e=.returned (.slice N 0 O)/\Virs w' N O [])/\Fr No w w':=
 zJ7 a q u v g y z A f J ds L E K w h.tr R U o C D F I h.ct h.vir
theorem zLJ (f:Nat)(a:Option Addr)(g:Nat)(ds:List Dev)(o:Option Addr)(q:Nat)(w:World)(h:FT w f a g ds)(z:ds.length<=250)(u:Env w)(A:f<=w.heap.size)(C:Virs w o q []):
  Calls Tryz.prog 30 #[.agg #[.slice a ds.length g],.slice o 0 q] w fun e w'=>(∃ (v:Option Addr) (y:Nat),e=.returned (.slice v ds.length y)/\w'.ownsRow w.heap.size 38 14 (.slice v ds.length y) ds.length (rmOps (revR ds)))/\Fr No w w':=
 zJ6 f a g ds o q w h.tr z u h.fl h.tt A (by have:=u.sz;omega) h.pr C
def keysE : List ByteArray:=[⟨#[99]⟩,⟨#[100]⟩]
def expE : List ByteArray:=[⟨#[114]⟩,⟨#[115]⟩]
theorem zK7 (w:World):Calls Tryz.prog 10 #[] w fun e w'=>(∃ k x,e=.returned (.tuple #[.agg #[.slice (some ⟨k,0,none⟩) 2 2,.int .i64 0],.slice (some ⟨x,0,none⟩) 2 2])/\Strs w' (some ⟨k,0,none⟩) 2 keysE/\Strs w' (some ⟨x,0,none⟩) 2 expE/\BlkT w' (some ⟨k,0,none⟩) 9/\BlkT w' (some ⟨x,0,none⟩) 9)/\Fr No w w':=by
 obtain⟨f,o⟩:∃ f,f=w.alloc (.cells #[.slice none 0 0,.int .i64 0] 43):=⟨_,rfl⟩
 obtain⟨g,q⟩:∃ g,g=f.alloc (.cells #[.string ⟨#[99]⟩,.string ⟨#[100]⟩] 9):=⟨_,rfl⟩
 obtain⟨z,y⟩:∃ z,z=g.alloc (.cells #[.string ⟨#[114]⟩,.string ⟨#[115]⟩] 9):=⟨_,rfl⟩
 have V:Fr No w f:=by rw[o];exact(Fr.refl _ _).alloc _
 have J:Fr No f g:=by rw[q];exact(Fr.refl _ _).alloc _
 have D:Fr No g z:=by rw[y];exact(Fr.refl _ _).alloc _
 have L:f.heap[w.heap.size]?=some (.cells #[.slice none 0 0,.int .i64 0] 43):=by rw[o];exact zD _ _
 have N:g.heap[f.heap.size]?=some (.cells #[.string ⟨#[99]⟩,.string ⟨#[100]⟩] 9):=by rw[q];exact zD _ _
 have X:z.heap[g.heap.size]?=some (.cells #[.string ⟨#[114]⟩,.string ⟨#[115]⟩] 9):=by rw[y];exact zD _ _
 have l0:=zC L;have O:Hid (f.heap.size+1=g.heap.size):=by rw[q];unfold Hid;simp
 have l1:=zC N;have F:=D.heap (J.heap L id) id;have Y:=D.heap N id;obtain⟨z0,z1⟩:=cl2 F;obtain⟨y0,y1⟩:=fl2 F;obtain⟨A,u⟩:∃ A,A=(z.setCell ⟨w.heap.size,0,none⟩ (.slice (some ⟨f.heap.size,0,none⟩) 2 2)).setCell ⟨w.heap.size,1,none⟩ (.int .i64 0):=⟨_,rfl⟩
 have Z:A.heap[w.heap.size]?=some (.cells #[.slice (some ⟨f.heap.size,0,none⟩) 2 2,.int .i64 0] 43):=by rw[u];exact zF (zF F 0 _) 1 _
 have I:Fr (Is w.heap.size) z A:=by rw[u];exact Fr.setAt (Fr.setAt (Fr.refl _ _) _) _
 have R:=I.heap Y (fun h=>by unfold Is at h;omega);have U:=I.heap X (fun h=>by unfold Is at h;omega);obtain⟨x0,x1⟩:=cl2 Z;have C:=zh (And.intro (Strs.of_block (l:=keysE) R (by decide)) (And.intro (Strs.of_block (l:=expE) U (by decide)) (And.intro (show BlkT A (some ⟨f.heap.size,0,none⟩) 9 from fun ad e=>by cases e;exact⟨_,R⟩) (And.intro (show BlkT A (some ⟨g.heap.size,0,none⟩) 9 from fun ad e=>by cases e;exact⟨_,U⟩) (((V.step J zi).step D zi).step I (fun b hb h=>by unfold Is at h;omega))))));clear L N X F Y Z R U V J D I l0 l1
 go_enter Tryz.func10,Tryz.ntmps10
 go_upto_region 1 with(fail)
 rw[<-o];clear o;rw[y,q]at u z0 z1 y0 y1
 go_wp2_with fail
 rw[<-u,O.out];refine bodyPost_ret (v:=.tuple #[.agg #[.slice (some ⟨f.heap.size,0,none⟩) 2 2,.int .i64 0],.slice (some ⟨g.heap.size,0,none⟩) 2 2]) (by simp[results,Tryz.results10,go_sem,x0,x1]) rfl ?_;exact⟨⟨f.heap.size,g.heap.size,rfl,C.out.1,C.out.2.1,C.out.2.2.1,C.out.2.2.2.1⟩,C.out.2.2.2.2⟩
theorem zKw (s:ByteArray)(w:World):Calls Tryz.prog 29 #[.slice none 0 0,.string s] w fun e w'=>e=.returned (.bool false)/\w'=w:=by
 go_enter Tryz.func29,Tryz.ntmps29
 go_wp2_with fail
 go_loopw [5] (fun v wr=>v=.int .i64 0/\wr=w) (fun _ _=>0)
 case atStart=>exact⟨rfl,rfl⟩
 case round=>
  obtain⟨rfl,rfl⟩:=hrel
  go_wp2_with fail
  go_ret;exact⟨rfl,rfl⟩
def TyS (lo:Nat)(w:World)(b:Nat):Prop:=lo<=b/\∃ cs T,w.heap[b]?=some (.cells cs T (0,0))/\(T=60\/T=104)
theorem FrK.trans {f:Nat}{w g o:World}(h:Fr (TyS f w) w g)(u:Fr (TyS f g) g o):Fr (TyS f w) w o:=h.step u fun b v y=>by
 refine Classical.byContradiction fun q=>q ?_
 obtain⟨z,cs,T,A,C⟩:=y;exact⟨z,cs,T,by rw[<-h.block b v q];exact A,C⟩
theorem FrK.no {g:Nat}{w f:World}(h:Fr No w f):Fr (TyS g w) w f:=h.mono fun _ _ h=>h.elim
theorem FrK.of {o:Nat}{w y:World}{q f:Nat}{a:Option Addr}{u:Nat}{ds:List Dev}{z:Option Addr}{A C:Nat}{I:Int}(D:FK w q f a u ds z A C I)(J:o<=f/\o<=q)(h:Fr (fun b=>b=q\/(Value.slice z A C).ownBlock=some b) w y):Fr (TyS o w) w y:=h.mono fun b R g=>by
 rcases g with rfl | g
 ·exact⟨J.2,_,_,D.st.blk,.inl rfl⟩
 ·obtain⟨U,F⟩:=D.st.own;obtain⟨L,N,v⟩:=zAn g;obtain⟨cs,O⟩:=zAI F L N;exact⟨by have:=(zAG F g).1;omega,cs,_,by rw[<-v];exact O,.inr rfl⟩
theorem TyS.ne {g:Nat}{w:World}{b:Nat}{cs:Array Value}{T:TypeId}{o:Nat×Nat}(h:w.heap[b]?=some (.cells cs T o))(q:T≠60)(u:T≠104):¬ TyS g w b:=fun ⟨_,x,y,f,v⟩=>by
 rw[h]at f;cases f;exact v.elim q u
theorem zJa {w:World}{f o n c:Nat}{T:TypeId}{q:Addr}{z:List Value}(h:w.ownsRow f T o (.slice (some q) n c) n z):q.off=0/\q.spot=none/\∀ (k:Nat) (u:Value),z[k]?=some u->w.cell? ⟨q.block,k,none⟩=some u:=by
 obtain⟨_,⟨y,_⟩ | ⟨g,A,C,y,I,D,J,L,N,F⟩⟩:=h
 ·cases y
 ·cases y;refine⟨rfl,rfl,fun k u v=>?_⟩;rw[zB D,<-Array.getElem?_toList];rw[<-F,List.getElem?_take]at v;split at v
  ·exact v
  ·cases v
theorem zGA : ∀ (l:List (Int×Dev)) (j i:Nat) (x:Int×Dev) (u:Value),l[j]?=some x->i<14->(ocs 2 (pathOf [x.2.orig]) ZD ⟨#[]⟩ ⟨#[]⟩).toList[i]?=some u->(rmOps l)[j*14+i]?=some u
 | [],j,i,x,u,h,_,_=>by simp at h
 | y::t,0,i,x,u,h,g,f=>by
  cases h;unfold rmOps;rw[List.flatMap_cons,List.getElem?_append_left (by show 0*14+i<14;omega),Nat.zero_mul,Nat.zero_add];exact f
 | y::t,j+1,i,x,u,h,g,f=>by
  have o:=zGA t j i x u (by simpa using h) g f;unfold rmOps at o ⊢;have q:((ocs 2 (pathOf [y.2.orig]) ZD ⟨#[]⟩ ⟨#[]⟩).toList).length=14:=rfl;rw[List.flatMap_cons,List.getElem?_append_right (by rw[q];omega),q];have e:(j+1)*14+i-14=j*14+i:=by omega
  rw[e];exact o
theorem zIQ (lo kb v:Nat)(a:Option Addr)(c2:Nat)(ds:List Dev)(ev:Option Addr)(en ec:Nat)(ix:Int)(ka ea:Option Addr)(kc xc:Nat)(wt:Int)(E K:List ByteArray)(w:World)(hK:FK w kb v a c2 ds ev en ec ix)(f6:en<=100)(i7:0<=ix/\ix<=50)(hb:v<=w.heap.size)(h9:lo<=v/\lo<=kb)(i8:9<=lo)
  (hE:Env w) (d7:Strs w ea xc E) (d8:Strs w ka kc K) (d9:BlkT w ka 9) (e0:BlkT w ea 9) (f7:K.length<=1000000) (f8:∀ x∈K,x.size<=maxLen):
  Calls Tryz.prog 14 #[.pointer (some ⟨kb,0,none⟩),.agg #[.slice ka K.length kc,.int .i64 wt],.slice ea E.length xc,.slice none 0 0] w fun e w'=>e=.returned (.bool true)/\(∃ a' A I C J,FK w' kb v a' A [] I C J ix)/\Fr (TyS lo w) w w':=by
 obtain⟨W0,a9⟩:∃ W0,W0=w.alloc (.cells #[.slice ka K.length kc,.int .i64 wt] 43):=⟨_,rfl⟩
 have x0:Fr No w W0:=by rw[a9];exact(Fr.refl _ _).alloc _
 have b0:W0.heap[w.heap.size]?=some (.cells #[.slice ka K.length kc,.int .i64 wt] 43):=by rw[a9];exact zD _ _
 have HA:=zh (And.intro hE (And.intro d7 (And.intro d8 (And.intro d9 e0))));have f9:Hid (FK W0 kb v a c2 ds ev en ec ix):=hK.no x0;have i1:=x0.size;have X0:=zh (And.intro x0 b0);clear hK hE d7 d8 d9 e0 x0 b0;have b7:Hid (∀ (W:World) (p:Option Addr) (c:Nat) (l:List ByteArray),Fr (TyS lo w) w W->Strs w p c l->BlkT w p 9->Strs W p c l):=fun W p c l hf hs ht=>hs.fr hf (fun ad e _=>by
  obtain⟨cs,hc⟩:=ht ad e;exact TyS.ne hc (by decide) (by decide))
 go_enter Tryz.func14,Tryz.ntmps14
 go_upto_region 1 with(fail)
 rw[<-a9];clear a9
 go_wp2_with fail
 go_loopw [9] (fun x wr=>∃ (r:Nat) (cs:List Dev) (a':Option Addr) (A:Nat) (I:Option Addr) (C J:Nat),x=.int .i64 (r:Int)/\(r=0/\C<=100\/r=1/\cs=[]/\C<=5000)/\Hid (FK wr kb v a' A cs I C J ix)/\Hid (Fr (TyS lo w) w wr/\wr.heap[w.heap.size]?=some (.cells #[.slice ka K.length kc,.int .i64 wt] 43))) (fun x _=>2-(intOf x).toNat)
 case atStart=>exact⟨0,ds,a,c2,ev,en,ec,rfl,.inl ⟨rfl,f6⟩,f9,⟨FrK.no X0.out.1,X0.out.2⟩⟩
 case round=>
  obtain⟨r,cs,a',A,I,C,J,rfl,hr,HK,HF⟩:=hrel;obtain⟨wA,rfl⟩:∃ wA,wA=wr:=⟨_,rfl⟩
  have i9:cs.length<=50:=by have:=HK.out.ln;omega
  have i2:(r:Int)<40:=by omega
  have j0:=HF.out.1.size;have U:=zFm kb v a' A cs I C J ix wA HK.out (by omega)
  go_wp2_with fail
  refine U.mono ?_;rintro e w1 ⟨⟨ta,tc,f,rfl,hT,c4⟩,c5⟩;have c6:Hid (f.length=cs.length):=by have:=congrArg List.length c4;unfold Hid;simpa using this
  have j1:f.length<=50:=by have:=c6.out;omega
  obtain⟨W2,b1⟩:∃ W2,W2=w1.alloc (.cells #[.slice ta f.length tc] 48):=⟨_,rfl⟩
  have x2:Fr No w1 W2:=by rw[b1];exact(Fr.refl _ _).alloc _
  have b2:W2.heap[w1.heap.size]?=some (.cells #[.slice ta f.length tc] 48):=by rw[b1];exact zD _ _
  have t2:W2.cell? ⟨w1.heap.size,0,none⟩=some (.slice ta f.length tc):=zB b2 0;obtain⟨R,hR⟩:∃ R,R=recL f f:=⟨_,rfl⟩
  have j2:Hid (R.length=f.length):=by rw[hR];unfold recL Hid;simp
  have V:=zDm (.pointer none) ta tc f W2 (hT.no x2).tr.dv hT.fl.ok.ok (by omega);rw[<-hR]at V;have e4:=zh (And.intro (hT.no x2) b2);have HS:=zh c4;have g0:=zh (c5.step x2 zi);have l2:=zC b2;have j3:=c5.size;clear hT x2 b2 c4 c5 U hR
  go_upto_region 5 with(fail)
  rw[<-b1];clear b1
  go_wp2_with fail
  refine V.mono ?_;rintro e w3 ⟨⟨ra,rc,rfl,hR,e5⟩,b3⟩;have e6:=zh (And.intro hR e5);have g3:=zh (g0.out.step b3 zi);have e7:=zh (And.intro (e4.out.1.no b3) (b3.heap e4.out.2 id));have j4:=hR.lenmax;clear hR e5 b3 V t2
  go_wp2_with fail
  go_loopw [12] (fun x wi=>∃ (j:Nat),j<=R.length/\x=.int .i64 (j:Int)/\Fr No w3 wi) (fun x _=>R.length-(intOf x).toNat)
  case atStart=>exact⟨0,by omega,rfl,Fr.refl _ _⟩
  case round=>
   obtain⟨j,hj,rfl,F⟩:=hrel;by_cases g4:j<R.length
   ·have e8:(j:Int)<R.length:=by omega
    obtain⟨bb,o,rr,rfl,g5,_,e9⟩:=(e6.out.1.no F (fun _=>id)).elem g4;have q0:=e9.c0;have c7:=zh F;clear e9 g5 F
    go_wp2_with fail
    refine(zKw _ _).mono ?_;rintro e w4 ⟨rfl,rfl⟩
    go_wp2_with fail
    go_roundw
    case rel=>exact⟨j+1,by omega,by go_num,c7.out⟩
    case measure=>simp[intOf];omega
   ·obtain rfl:j=R.length:=by omega
    have e8:¬ (R.length:Int)<R.length:=by omega
    have c7:=zh (g3.out.step F zi);have c8:=zh (And.intro (e7.out.1.no F) (F.heap e7.out.2 id));have g6:Hid (Recs _ ra rc R):=e6.out.1.no F (fun _=>id);clear F
    go_upto_region 11 with(fail)
    refine zQ No [(0,false),(1,false),(2,false),(3,false),(4,false),(5,true),(6,true),(7,false)] (by kernel_rfl) (by kernel_rfl) (fun w5 X=>?_);have d2:=X.heap c8.out.2 id;have F5:=zh (c7.out.step X zi);have d0:=F5.out.heap HF.out.2 id;have t2:∀ g:Gr No w5,g.W.cell? ⟨w1.heap.size,0,none⟩=some (.slice ta f.length tc):=fun g=>zB (g.fr.heap d2 id) 0
    have t5:∀ g:Gr No w5,g.W.cell? ⟨w.heap.size,0,none⟩=some (.slice ka K.length kc):=fun g=>zB (g.fr.heap d0 id) 0
    have t6:∀ g:Gr No w5,g.W.cell? ⟨w.heap.size,1,none⟩=some (.int .i64 wt):=fun g=>zB (g.fr.heap d0 id) 1
    have G5:=zh (HF.out.1.step F5.out zn);have E5:Hid (Env w5):=HA.out.1.fr G5.out (fun b hb h=>by have:=h.1;omega);have T5:Hid (FT w5 wA.heap.size ta tc f):=c8.out.1.no X;have Y:=zIZ ta ra ka ea tc rc kc xc wA.heap.size wt f R E K w5 T5.out (by omega) (g6.out.no X (fun _=>id)) E5.out (b7.out w5 ea xc E G5.out HA.out.2.1 HA.out.2.2.2.2) (b7.out w5 ka kc K G5.out HA.out.2.2.1 HA.out.2.2.2.1) f7 f8;have s5:=F5.out.size;clear d2 d0 X
    repeat (apply zS rfl rfl rfl;intro K hK;go_big_quiet_op;go_big_quiet_on)
    clear t2 t5 t6;apply zk;exact rfl
    go_wp2_with fail
    refine Y.mono ?_;rintro e w6 ⟨⟨ma,mc,rfl,hV⟩,N⟩;have s6:=N.size;have Z:=zLJ wA.heap.size ta tc f ma mc w6 (T5.out.no N) (by omega) (E5.out.fr N (fun _ _=>id)) (by omega) hV;have F6:=zh (F5.out.step N zi);clear Y hV
    go_wp2_with fail
    refine zf N ?_;clear N;apply zk;exact rfl
    go_wp2_with fail
    refine Z.mono ?_;rintro e w7 ⟨⟨av,cv,rfl,b8⟩,b4⟩;have F7:=zh (F6.out.step b4 zi);have a4:=zh b8;have s7:=b4.size;clear Z b8
    go_wp2_with fail
    refine zf b4 ?_;clear b4
    repeat (apply zS rfl rfl rfl;intro K hK;go_big_quiet_op;go_big_quiet_on)
    refine zY ?_;have f0:Hid (FK w7 kb v a' A cs I C J ix):=HK.out.no F7.out;have G7:=zh (HF.out.1.step F7.out zn);have D7:=zh (F7.out.heap HF.out.2 id);by_cases h0:f.length=0
    ·have he:((f.length:Int)==0)=true:=by simp[h0]
     go_wp2_with fail
     go_ret;have c9:cs=[]:=List.eq_nil_of_length_eq_zero (by have:=c6.out;omega);subst c9;exact⟨rfl,⟨_,_,_,_,_,f0.out⟩,G7.out⟩
    ·have he:((f.length:Int)==0)=false:=by simp[h0]
     obtain⟨f1,i3⟩:Hid (r=0)/\C<=100:=by
      rcases hr with⟨h1,h2⟩ | ⟨_,h2,_⟩
      ·exact⟨h1,h2⟩
      ·subst h2;exact absurd c6.out h0
     clear hr
     go_wp2_with fail
     go_loopw [14] (fun x D=>∃ (j:Nat) (cj:List Dev) (a2:Option Addr) (L:Nat) (b5:Option Addr) (a5 b6:Nat),j<=f.length/\x=.int .i64 (j:Int)/\a5<=100+50*j/\Hid (FK D kb v a2 L cj b5 a5 b6 ix/\cj.map strip=(f.take (f.length-j)).map strip)/\Hid (Fr (TyS lo w7) w7 D)) (fun x _=>f.length-(intOf x).toNat)
     case atStart=>exact⟨0,cs,a',A,I,C,J,by omega,rfl,by omega,⟨f0.out,by rw[Nat.sub_zero,List.take_length];exact HS.out.symm⟩,Fr.refl _ _⟩
     case round=>
      obtain⟨j,cj,a2,L,b5,a5,b6,hj,rfl,j5,O,a6⟩:=hrel;obtain⟨D,rfl⟩:∃ D,D=wr:=⟨_,rfl⟩
      by_cases i4:j<f.length
      ·have d1:(j:Int)<f.length:=by omega
       obtain⟨q,hq⟩:∃ q,q=f.length-1-j:=⟨_,rfl⟩
       have d3:q<f.length:=by omega
       obtain⟨d,hd⟩:∃ d,f[q]?=some d:=⟨_,List.getElem?_eq_getElem d3⟩
       have d4:=zFW d3 hd;have e1:f.length-1-q=j:=by omega
       rw[e1]at d4;have d5:f.take (f.length-j)=f.take (f.length-(j+1))++[d]:=by
        have e2:f.length-j=q+1:=by omega
        have e3:f.length-(j+1)=q:=by omega
        rw[e2,e3,List.take_add_one,hd];rfl
       have f2:FlatW (f.take (f.length-(j+1))++[d]):=by rw[<-d5];exact c8.out.1.fl.sub (List.take_sublist _ _)
       have d6:=O.out.2;rw[d5]at d6;have i5:cj.length<=50:=by have:=O.out.1.ln;omega
       have j6:=a6.out.size;have a7:=zL7 kb v a2 L cj (f.take (f.length-(j+1))) d b5 a5 b6 ix D O.out.1 (by omega) (by omega) (by omega) f2 d6;have a8:=zG a4.out a6.out (fun b hb ht=>by
        obtain⟨ad,hv,g7⟩:=zAn hb;obtain⟨j7,hc⟩:=zAI a4.out ad hv;exact TyS.ne (g7▸hc) (by decide) (by decide) ht)
       obtain⟨ad,rfl⟩:∃ ad,av=some ad:=by
        cases av with
        | none=>exact absurd (zFc a4.out rfl).1 h0
        | some ad=>exact⟨ad,rfl⟩
       obtain⟨g1,g2,hc⟩:=zJa a8;obtain⟨y,o,sp⟩:=ad;simp only at g1 g2;subst g2;have z:Hid (∀ (i:Nat) (u:Value),i<14->(ocs 2 (pathOf [d.orig]) ZD ⟨#[]⟩ ⟨#[]⟩).toList[i]?=some u->D.cell? ⟨y,o+(j*14+i),none⟩=some u):=fun i u hi hu=>by
        rw[g1,Nat.zero_add];exact hc _ _ (zGA _ j i _ _ d4 hi hu)
       clear hc g1 a8 d4 d6 d5 f2 hd hq d3 e1;have o0:D.cell? ⟨y,o+j*14,none⟩=some (.int .i64 2):=z.out 0 _ (by decide) rfl;have o1:D.cell? ⟨y,o+j*14+1,none⟩=some (.string (pathOf [d.orig])):=z.out 1 _ (by decide) rfl;have o2:D.cell? ⟨y,o+j*14+2,none⟩=some (.int .i64 0):=z.out 2 _ (by decide) rfl;have o3:D.cell? ⟨y,o+j*14+3,none⟩=some (.int .i64 0):=z.out 3 _ (by decide) rfl;have o4:D.cell? ⟨y,o+j*14+4,none⟩=some (.string ⟨#[]⟩):=z.out 4 _ (by decide) rfl;have o5:D.cell? ⟨y,o+j*14+5,none⟩=some (.string ⟨#[]⟩):=z.out 5 _ (by decide) rfl;have o6:D.cell? ⟨y,o+j*14+6,none⟩=some (.string ⟨#[]⟩):=z.out 6 _ (by decide) rfl;have o7:D.cell? ⟨y,o+j*14+7,none⟩=some (.string ⟨#[]⟩):=z.out 7 _ (by decide) rfl;have o8:D.cell? ⟨y,o+j*14+8,none⟩=some (.string ⟨#[]⟩):=z.out 8 _ (by decide) rfl;have o9:D.cell? ⟨y,o+j*14+9,none⟩=some (.int .i64 0):=z.out 9 _ (by decide) rfl;have g8:D.cell? ⟨y,o+j*14+10,none⟩=some (.int .i64 0):=z.out 10 _ (by decide) rfl;have g9:D.cell? ⟨y,o+j*14+11,none⟩=some (.slice none 0 0):=z.out 11 _ (by decide) rfl;have h3:D.cell? ⟨y,o+j*14+12,none⟩=some (.string ⟨#[]⟩):=z.out 12 _ (by decide) rfl;have h4:D.cell? ⟨y,o+j*14+13,none⟩=some (.string ⟨#[]⟩):=z.out 13 _ (by decide) rfl;unfold ocs ZD at a7
       go_wp2_with fail
       refine a7.mono ?_;rintro e w8 ⟨rfl,⟨a3,f3,c3,h5,h6,h7,f4,i6,b9⟩,f5⟩;have h8:=zh (And.intro f4 b9);have i0:Hid (Fr (TyS lo w7) w7 w8):=FrK.trans a6.out (FrK.of O.out.1 h9 f5);clear a7 f4 b9 f5 o0 o1 o2 o3 o4 o5 o6 o7 o8 o9 g8 g9 h3 h4
       go_wp2_with fail
       go_roundw
       case rel=>exact⟨j+1,c3,a3,f3,h5,h6,h7,by omega,by go_num,by omega,h8,i0⟩
       case measure=>simp[intOf];omega
      ·obtain rfl:j=f.length:=by omega
       have d1:¬ (f.length:Int)<f.length:=by omega
       have c9:cj=[]:=by
        have h:=O.out.2;rw[Nat.sub_self,List.take_zero,List.map_nil,List.map_eq_nil_iff]at h;exact h
       go_wp2_with fail
       go_roundw
       case rel=>exact⟨r+1,cj,a2,L,b5,a5,b6,by go_num,.inr ⟨by have:=f1.out;omega,c9,by omega⟩,O.out.1,⟨FrK.trans G7.out a6.out,a6.out.heap D7.out (TyS.ne D7.out (by decide) (by decide))⟩⟩
       case measure=>have:=f1.out;simp[intOf];omega
def sxT : ByteArray:=⟨#[116,97,98,108,101,58,116,40,114,97,105,100,58,114,58,49,47,49,47,49,40,102,115,58,120,58,41,41]⟩
def sxR : ByteArray:=⟨#[114,97,105,100,58,114,58,49,47,49,47,49,40,102,115,58,120,58,41]⟩
def sxX : ByteArray:=⟨#[102,115,58,120,58]⟩
def sxA : ByteArray:=⟨#[115,100,97]⟩
def sxB : ByteArray:=⟨#[115,100,97,112,49]⟩
def sxPA : ByteArray:=⟨#[47,115,100,97]⟩
def sxPB : ByteArray:=⟨#[47,115,100,97,47,115,100,97,112,49]⟩
def sxI : ByteArray:=⟨#[114]⟩
def sxM : ByteArray:=⟨#[109,100,45,114]⟩
def sxCR : Ct:=.mk 2 sxI ⟨#[]⟩ 1 1 1 [.mk 1 ⟨#[120]⟩ ⟨#[]⟩ 0 0 0 []]
def sxCT : Ct:=.mk 5 ⟨#[116]⟩ ⟨#[]⟩ 0 0 0 [sxCR]
theorem zKH : Lib.itoa 1=[49]:=by kernel_rfl
theorem sxPR : parseC sxR=some sxCR:=(zBK _ _).2 ⟨by decide,by decide,by rw[sxCR,zG2];simp[zHk,commas,sxR,sxI,zKH];rfl⟩
theorem sxPT : parseC sxT=some sxCT:=(zBK _ _).2 ⟨by decide,by decide,by rw[sxCT,zHj];simp[sxCR,zG2,zHk,commas,sxT,sxI,zKH];rfl⟩
theorem sx_x : sxCR.inner.map Ct.txt=[sxX]:=by simp[sxCR,Ct.inner,txt1,sxX];rfl
theorem zMH : sxCR.txt=sxR:=zCV (by rw[zCA];exact((zBK _ _).1 sxPR).2.2)
theorem sx_r : sxCT.inner.map Ct.txt=[sxR]:=by simp[sxCT,Ct.inner,zMH]
def sxV (r:Int):Vir:=⟨sxPA,sxB,sxR,r⟩
def sxW (r:Int):Vir:=⟨⟨#[]⟩,sxM,sxX,r⟩
theorem zCc {L:List Mem}(h:L.map Mem.k=[]):L=[]:=by simpa using h
theorem ids2_nil {g:Mem->Bool}{f:List ByteArray}(h:IsIds2 (zo g []) f):f=[]:=by
 cases f with
 | nil=>rfl
 | cons x t=>
  obtain⟨s,o⟩:=(h.mem x).1 (by simp);cases o
theorem ids_nil {f:List ByteArray}(h:IsIds [] f):f=[]:=by
 cases f with
 | nil=>rfl
 | cons x t=>exact absurd ((h.mem x).1 (by simp)) (by simp[best])
section
variable {ds:List Dev}{tx:Dev->ByteArray}{E K:List ByteArray}{r:Int}{S:List Src}{M M3:List Vir}{G G2:List (ByteArray×ByteArray)}
theorem zK6 (h:MidR ds tx E K r S M G M3 G2)(v:S.filterMap (fun s=>ofK 2 mk2 s.o s.r (tx s.d))=[])(y:S.filterMap (fun s=>ofK 3 mk3 s.o s.r (tx s.d))=[]):M3=wantS tx S M r S.length/\G2=G:=by
 obtain⟨J,f,z,L,N,g,q,A,C,D,u,F,I⟩:=h;rw[v]at q;obtain rfl:=zCc q;obtain rfl:=ids2_nil A;obtain rfl:z=[]:=by simpa using C
 rw[y]at u;obtain rfl:=zCc u;obtain rfl:=ids_nil F;injection D with b1 b2
 exact⟨by rw[I,b1];rfl,b2⟩
theorem zGK {C v:List Src}{f:List Vir}{g:List (ByteArray×ByteArray)}(h:NextR ds tx E K C r S M G v f g)(y:S.filterMap (fun s=>ofK 4 mk4 s.o s.r (tx s.d))=[]):MidR ds tx E K r S M G f g:=by
 obtain⟨⟨J,L,N,q,z,A,u,D,F,I⟩,-⟩:=h;rw[y]at u;obtain rfl:=zCc u;obtain rfl:=ids2_nil D;obtain rfl:z=[]:=by simpa using F
 injection I with b1 b2
 rw[b1,b2];exact A
theorem zJP {p:ByteArray}{rd:Int}{L:List Mem}{f:List ByteArray}{O:List ArrM}(N:p.toList.isEmpty=false)(z:L.map Mem.k=[mk2 p rd sxCR])(C:IsIds2 (zo soundA L) f)(g:O.map ArrM.toArr=f.map (buildA (zo soundA L))):
  ∃ o,O=[o]/\o.i=sxI/\o.t=1/\o.e=1/\o.n=1/\o.l=[sxX]:=by
 obtain⟨m,rfl⟩:∃ m,L=[m]:=by
  cases L with
  | nil=>simp at z
  | cons m t=>cases t with
   | nil=>exact⟨m,rfl⟩
   | cons m' t=>simp at z
 have q:m.k=mk2 p rd sxCR:=by simpa using z
 have D:m.p=p:=congrArg Mem.p q;have R:m.i=sxI:=congrArg Mem.i q;have F:m.s=1:=congrArg Mem.s q;have I:m.t=1:=congrArg Mem.t q;have U:m.e=1:=congrArg Mem.e q;have J:m.l=[sxX]:=(congrArg Mem.l q).trans sx_x;have V:soundA m=true:=by
  unfold soundA soundB;rw[D,F,I,J,N];decide
 have X:zo soundA [m]=fun x=>if x=(sxI,1)then some m else none:=by
  show zAX soundA (fun _=>none) m=_
  rw[zBm V (fun o h=>by cases h),R,F]
 rw[X]at C g;have u:f=[sxI]:=C.unique ⟨by unfold AscS;decide,fun x=>⟨fun h=>by
  obtain rfl:x=sxI:=by simpa using h
  exact⟨1,by rw[if_pos rfl];rfl⟩,fun ⟨s,h⟩=>by
  split at h
  ·rename_i e;simp at e;simp[e.1]
  ·cases h⟩⟩
 rw[u]at g;have y:(fun x:ByteArray×Int=>if x=(sxI,1)then some m else none) (sxI,1)=some m:=if_pos rfl;obtain⟨b,A⟩:∃ b:ByteArray×Int->Option Mem,b=fun x=>if x=(sxI,1)then some m else none:=⟨_,rfl⟩
 rw[<-A]at g y;have Y:zAz b sxI=1:=by unfold zAz;simp[List.range_succ_eq_map,y]
 have Z:zAW b sxI=m:=by unfold zAW;rw[Y,y];rfl
 have hB:buildA b sxI=⟨sxI,[p],1,1,1,[sxX]⟩:=by
  unfold buildA;rw[Z,I,U,J];simp[pathAt,y,D,List.range_succ_eq_map]
 simp only[List.map_cons,List.map_nil,hB]at g;cases O with
 | nil=>simp at g
 | cons o t=>
  cases t with
  | cons o' t=>simp at g
  | nil=>
   have v:o.toArr=⟨sxI,[p],1,1,1,[sxX]⟩:=by simpa using g
   exact⟨o,rfl,congrArg Arr.i v,congrArg Arr.t v,congrArg Arr.e v,congrArg Arr.n v,congrArg Arr.l v⟩
theorem zIJ {p:ByteArray}{rd:Int}(F:p.toList.isEmpty=false)(h:MidR ds tx E K r S M G M3 G2)(I:S.filterMap (fun s=>ofK 2 mk2 s.o s.r (tx s.d))=[mk2 p rd sxCR])(J:S.filterMap (fun s=>ofK 3 mk3 s.o s.r (tx s.d))=[]):
  (M3,G2)=(if (G.any fun y=>decide (y=(mdK,sxI)))=true then (wantS tx S M r S.length,G++[(mdK,sxI)])else (zw (wantS tx S M r S.length) (sxW r),G++[(mdK,sxI)])):=by
 obtain⟨L2,q,O2,L,L3,u,v,N,O,f,z,R,U⟩:=h;rw[I]at v;obtain⟨o,rfl,A,V,X,Y,Z⟩:=zJP F v N O;rw[J]at z;obtain rfl:=zCc z;obtain rfl:=ids_nil R;have hv:mdOf o.i o.l r=sxW r:=by rw[A,Z];rfl
 have ha:arrAll ds E r (wantS tx S M r S.length,G) [o] [o].length=zBR ds E r (wantS tx S M r S.length,G) o:=rfl;rw[ha]at f;unfold zBR at f;have g:∀ C D,mustB o.t o.e o.n C D=true:=fun C D=>by rw[V,X,Y];unfold mustB;simp
 rw[if_pos (g _ _),hv,A]at f;have:M3=L:=by rw[U];rfl
 rw[this];exact f
end
structure SxD (d0:Dev)(tx:Dev->ByteArray):Prop where
 h0:d0.orig=sxA
 hk:d0.kind=2
 ht:tx d0=sxT
 hp:d0.parent=0
 hi:d0.index=1
structure SxP (d1:Dev)(tx:Dev->ByteArray):Prop where
 g0:d1.orig=sxB
 gt:tx d1=sxR
 gp:d1.parent=1
 gi:d1.index=2
theorem zLi {f:Dev}{tx:Dev->ByteArray}(D:SxD f tx)(r:Int):pwL sxPA f (tx f) r=[sxV r]:=by
 have ⟨h,o,q,v,y⟩:=D;unfold pwL;rw[q,sxPT];show (if sxCT.kind=5/\f.kind=2 then pwF sxPA f.orig r (sxCT.inner.map Ct.txt) sxCT.inner.length else [])=_
 rw[if_pos ⟨rfl,o⟩,sx_r,h];have:sxCT.inner.length=0+1:=rfl;rw[this,zEB];have g:partOk sxA 1=true:=by kernel_rfl
 have u:partT sxA 1=sxB:=by kernel_rfl
 simp[pwF,zAV,g,u,sxV]
theorem zMI {o:Dev}{tx:Dev->ByteArray}(D:SxD o tx){k:Int}(g:k≠5)(q:ByteArray->Int->Ct->Mem)(p:ByteArray)(rd:Int):ofK k q p rd (tx o)=none:=by
 have ⟨v,y,u,z,A⟩:=D;refine zGI (fun c f=>?_);rw[u,sxPT]at f;injection f with f
 subst f;exact fun h=>g h.symm
theorem sx_f {h:Dev}{tx:Dev->ByteArray}(D:SxD h tx){k:Int}(f:k≠5)(g:ByteArray->Int->Ct->Mem)(q:Int)(p:ByteArray)(rd:Int)(t:List Src):(⟨q,h,p,rd⟩::t:List Src).filterMap (fun s=>ofK k g s.o s.r (tx s.d))=t.filterMap (fun s=>ofK k g s.o s.r (tx s.d)):=by
 have ⟨u,v,y,z,A⟩:=D;rw[List.filterMap_cons,zMI D f g p rd]
theorem zKj {f:Dev}{tx:Dev->ByteArray}(D:SxD f tx)(M:List Vir)(r:Int):wantS tx [⟨0,f,sxPA,0⟩] M r [(⟨0,f,sxPA,0⟩:Src)].length=zw M (sxV r):=by
 have ⟨g,h,o,q,u⟩:=D;show zl M (pwL sxPA f (tx f) r)=_
 rw[zLi D];rfl
theorem zF7 {f:Dev}{tx:Dev->ByteArray}(D:SxD f tx){ds:List Dev}{C u:List Src}{M g:List Vir}{G q:List (ByteArray×ByteArray)}{r:Int}(h:NextR ds tx [] [] C r [⟨0,f,sxPA,0⟩] M G u g q):g=zw M (sxV r)/\q=G:=by
 have ⟨A,F,I,J,L⟩:=D;have v:[(⟨0,f,sxPA,0⟩:Src)].filterMap (fun s=>ofK 4 mk4 s.o s.r (tx s.d))=[]:=by rw[sx_f D (by decide)];rfl
 obtain⟨y,z⟩:=zK6 (zGK h v) (by rw[sx_f D (by decide)];rfl) (by rw[sx_f D (by decide)];rfl);exact⟨by rw[y,zKj D],z⟩
theorem zMJ : inW [sxV 1] sxPA sxB=true:=by unfold inW sxV;simp
theorem zKF : zw [] (sxV 1)=[sxV 1]:=by unfold zw inW;simp
theorem zKE (r:Int):zw [sxV 1] (sxV r)=[sxV 1]:=by unfold zw;rw[if_pos];exact zMJ
theorem zJF (r:Int):zw [sxV 1,sxW 2] (sxV r)=[sxV 1,sxW 2]:=by unfold zw;rw[if_pos];unfold inW sxV;simp
theorem zKm : zw [sxV 1] (sxW 2)=[sxV 1,sxW 2]:=by
 unfold zw;rw[if_neg]
 ·rfl
 ·unfold inW sxV sxW;simp[sxPA]
theorem zHo {a b:Src}{l:List Src}(h:l.Perm [a,b])(u:l.Pairwise fun x y=>x.at_<=y.at_)(v:a.at_<b.at_):l=[a,b]:=by
 have z:=h.length_eq
 match l,z with
 | [x,y],_=>
  have g:x∈[a,b]:=h.mem_iff.1 (by simp);have f:y∈[a,b]:=h.mem_iff.1 (by simp);have o:a∈[x,y]:=h.mem_iff.2 (by simp);have q:b∈[x,y]:=h.mem_iff.2 (by simp);have A:x.at_<=y.at_:=by simpa using u
  simp at g f o q;rcases g with rfl | rfl
  ·rcases f with rfl | rfl
   ·rcases q with rfl | rfl<;>omega
   ·rfl
  ·rcases f with rfl | rfl
   ·omega
   ·rcases o with rfl | rfl<;>omega
theorem zKl {ds:List Dev}{tx:Dev->ByteArray}{M:List Vir}{r:Int}{s:Src}(h:M.find? (fun v=>decide ((v.q,v.o)=(plc ds s.d.parent,s.d.orig)))=none):againB ds tx M r s=false:=by
 unfold againB;rw[h]
theorem zKG {f:Dev}{tx:Dev->ByteArray}(D:SxD f tx)(ds:List Dev)(g:∀ d∈ds,d.index≠0)(M:List Vir)(h:∀ v∈M,v.o≠sxA)(r:Int)(q:Int)(p:ByteArray)(rd:Int):againB ds tx M r ⟨q,f,p,rd⟩=false:=by
 have ⟨u,z,A,C,F⟩:=D;refine zKl ?_;rw[List.find?_eq_none];intro v y;have:=h v y;rw[u];simp;exact fun _=>this
theorem zKn {f:Dev}{tx:Dev->ByteArray}(D:SxD f tx){M:List Vir}{y:List Src}{g:List Vir}{z:List (ByteArray×ByteArray)}{r:Int}(A:M=[]/\r=1\/M=[sxV 1])(h:NextR [f] tx [] [] [⟨0,f,sxPA,0⟩] r [⟨0,f,sxPA,0⟩] M [] y g z):y=[⟨0,f,sxPA,0⟩]/\g=[sxV 1]/\z=[]:=by
 have ⟨I,J,L,N,C⟩:=D;obtain⟨o,F⟩:=zF7 D h;have q:g=[sxV 1]:=by
  rcases A with⟨rfl,rfl⟩ | rfl
  ·rw[o,zKF]
  ·rw[o,zKE]
 refine⟨?_,q,F⟩;have u:=h.2.1;have v:=zKG D [f] (by simp[C]) g (by rw[q];unfold sxV sxB sxA;simp) r 0 sxPA 0;have:moreS [f] tx g r [⟨0,f,sxPA,0⟩] [(⟨0,f,sxPA,0⟩:Src)].length=[]:=by
  unfold moreS;simp[v]
 rw[this,List.append_nil]at u;exact List.perm_singleton.1 u
theorem zKk {f g:Dev}{tx:Dev->ByteArray}(D:SxD f tx)(P:SxP g tx):plc [f,g] g.parent=sxPA:=by
 have ⟨u,A,C,v,o⟩:=D;have ⟨F,I,y,z⟩:=P;have q:look [f,g] 1=some f:=by unfold look;simp[o]
 have h:look [f,g] 0=none:=zAU.2 (by simp[o,z]);unfold plc origin chain;rw[y,q];show pathOf ((chainK [f,g] (1+1) 1).map Dev.orig).reverse=sxPA
 unfold chainK;rw[q];show pathOf ((f::chainK [f,g] (0+1) f.parent).map Dev.orig).reverse=sxPA
 unfold chainK;rw[v,h];show pathOf [f.orig]=sxPA
 rw[u];kernel_rfl
theorem zJH {g f:Dev}{tx:Dev->ByteArray}(D:SxD g tx)(P:SxP f tx)(M:List Vir)(r:Int):againB [g,f] tx (sxV 1::M) r ⟨1,f,sxPB,0⟩=(1==r):=by
 have ⟨y,z,A,C,F⟩:=D;have ⟨h,u,I,J⟩:=P;have e:plc [g,f] (Src.d ⟨1,f,sxPB,0⟩).parent=sxPA:=zKk D P;unfold againB;have:(sxV 1::M).find? (fun v=>decide ((v.q,v.o)=(plc [g,f] (Src.d ⟨1,f,sxPB,0⟩).parent,(Src.d ⟨1,f,sxPB,0⟩).orig)))=some (sxV 1):=by
  rw[List.find?_cons_of_pos];rw[e];show decide ((sxPA,sxB)=(sxPA,f.orig))=true
  rw[h];simp
 rw[this];show ((1==r)&&(sxR.toList==(tx f).toList))=_
 rw[u];simp
theorem zHp {g f:Dev}{tx:Dev->ByteArray}(D:SxD g tx)(P:SxP f tx){M:List Vir}{r:Int}(z:∀ v∈M,v.o≠sxA):moreS [g,f] tx (sxV 1::M) r [⟨0,g,sxPA,0⟩,⟨1,f,sxPB,0⟩] [(⟨0,g,sxPA,0⟩:Src),⟨1,f,sxPB,0⟩].length=if r=1 then [⟨1,f,sxPB,r⟩]else []:=by
 have ⟨I,J,L,N,A⟩:=D;have ⟨O,R,U,C⟩:=P;have F:=zKG D [g,f] (by simp[A,C]) (sxV 1::M) (by
  intro v q;rcases List.mem_cons.1 q with rfl | q
  ·show sxB≠sxA
   decide
  ·exact z v q) r 0 sxPA 0
 have y:=zJH D P M r;unfold moreS;show (([(⟨0,g,sxPA,0⟩:Src),⟨1,f,sxPB,0⟩]).filter _).map _=_
 rw[List.filter_cons_of_neg (by rw[F];simp)];by_cases u:r=1
 ·subst u;rw[List.filter_cons_of_pos (by rw[y];rfl),if_pos rfl];rfl
 ·rw[List.filter_cons_of_neg (by rw[y];simpa using fun h=>u h.symm),if_neg u];rfl
theorem zJG {g q:Dev}{tx:Dev->ByteArray}(D:SxD g tx)(P:SxP q tx){u:List Src}{v:List Vir}{y:List (ByteArray×ByteArray)}(h:NextR [g,q] tx [] [] [⟨0,g,sxPA,0⟩,⟨1,q,sxPB,0⟩] 1 [⟨0,g,sxPA,0⟩] [] [] u v y):u=[⟨0,g,sxPA,0⟩,⟨1,q,sxPB,1⟩]/\v=[sxV 1]/\y=[]:=by
 have ⟨A,C,F,I,J⟩:=D;have ⟨L,N,O,R⟩:=P;obtain⟨f,z⟩:=zF7 D h;rw[zKF]at f;refine⟨?_,f,z⟩;have o:=h.2.1;rw[f,zHp D P (by simp),if_pos rfl]at o;exact zHo o h.2.2 (by show (0:Int)<1;omega)
theorem zF8 {u q:Dev}{tx:Dev->ByteArray}(D:SxD u tx)(P:SxP q tx){U:List Src}{M N:List Vir}{G O:List (ByteArray×ByteArray)}{r:Int}(V:(r=2/\M=[sxV 1]/\G=[])\/(3<=r/\M=[sxV 1,sxW 2]/\(G.any fun y=>decide (y=(mdK,sxI)))=true))(h:NextR [u,q] tx [] [] [⟨0,u,sxPA,0⟩,⟨1,q,sxPB,0⟩] r [⟨0,u,sxPA,0⟩,⟨1,q,sxPB,1⟩] M G U N O):
  U=[⟨0,u,sxPA,0⟩,⟨1,q,sxPB,1⟩]/\N=[sxV 1,sxW 2]/\O=G++[(mdK,sxI)]:=by
 have ⟨h0,hk,Z,hp,hi⟩:=D;have ⟨g0,X,gp,gi⟩:=P;have z:∀ (k:Int) (A:ByteArray->Int->Ct->Mem),[(⟨0,u,sxPA,0⟩:Src),⟨1,q,sxPB,1⟩].filterMap (fun s=>ofK k A s.o s.r (tx s.d))=if k=2 then [A sxPB 1 sxCR]else if k=5 then [A sxPA 0 sxCT]else []:=by
  intro k A;have e0:ofK k A sxPA 0 (tx u)=if k=5 then some (A sxPA 0 sxCT)else none:=by
   unfold ofK;rw[Z,sxPT];show (if (5:Int)=k then some (A sxPA 0 sxCT)else none)=_
   by_cases f:k=5
   ·rw[if_pos f.symm,if_pos f]
   ·rw[if_neg (fun h=>f h.symm),if_neg f]
  have e1:ofK k A sxPB 1 (tx q)=if k=2 then some (A sxPB 1 sxCR)else none:=by
   unfold ofK;rw[X,sxPR];show (if (2:Int)=k then some (A sxPB 1 sxCR)else none)=_
   by_cases f:k=2
   ·rw[if_pos f.symm,if_pos f]
   ·rw[if_neg (fun h=>f h.symm),if_neg f]
  rw[List.filterMap_cons,e0,List.filterMap_cons,e1];by_cases F:k=2
  ·subst F;rfl
  ·by_cases f:k=5
   ·subst f;rfl
   ·simp[F,f]
 have I:=zGK h (by rw[z];rfl);have g:=zIJ (p:=sxPB) (rd:=1) (by simp[ByteArray.toList_eq,sxPB]) I (by rw[z];rfl) (by rw[z];rfl);have hw:wantS tx [(⟨0,u,sxPA,0⟩:Src),⟨1,q,sxPB,1⟩] M r [(⟨0,u,sxPA,0⟩:Src),⟨1,q,sxPB,1⟩].length=zw M (sxV r):=by
  show zl (zl M (pwL sxPA u (tx u) r)) (pwL sxPB q (tx q) r)=_
  rw[zLi D,zKK (s:=tx q) (fun c L=>by
   rw[X,sxPR]at L;injection L with L
   subst L;decide)]
  rfl
 rw[hw]at g;have C:N=[sxV 1,sxW 2]/\O=G++[(mdK,sxI)]:=by
  rcases V with⟨rfl,rfl,rfl⟩ | ⟨-,rfl,hg⟩
  ·rw[if_neg (by simp),zKE,zKm]at g;injection g with b1 b2
   exact⟨b1,b2⟩
  ·rw[if_pos hg,zJF]at g;injection g with b1 b2
   exact⟨b1,b2⟩
 refine⟨?_,C.1,C.2⟩;have J:=h.2.1;have R:r≠1:=by rcases V with⟨h,_⟩ | ⟨h,_⟩<;>omega
 rw[C.1,zHp D P (by intro v Y;simp at Y;subst Y;show sxM≠sxA;decide),if_neg R,List.append_nil]at J;exact zHo J h.2.2 (by show (0:Int)<1;omega)
end Go.Proofs.YtinfjnndbfahhaaGreatDoor
