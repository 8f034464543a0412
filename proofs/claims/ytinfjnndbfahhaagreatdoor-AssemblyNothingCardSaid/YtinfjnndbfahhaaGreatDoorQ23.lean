import Derived.Test.YtinfjnndbfahhaaGreatDoorQ22
namespace Go.Proofs.YtinfjnndbfahhaaGreatDoor
open Go.RowKit Go.Maps
set_option linter.unusedVariables false
set_option maxRecDepth 100000
set_option maxHeartbeats 2000000
theorem zHU (m:Nat):m<=10000->∀ (k s t e:Int) (i l:ByteArray) (n:List Ct) (a:Option Addr) (f:Nat) (w:World) (X:Nat->Prop),Ct.counts n<m->InAt w X a f n->
  Calls Tryz.prog 303 #[.agg #[.int .i64 k,.string i,.string l,.int .i64 s,.int .i64 t,.int .i64 e,.slice a n.length f]] w fun en w2=>(∃ a' c',en=.returned (.agg #[.int .i64 k,.string i,.string l,.int .i64 s,.int .i64 t,.int .i64 e,.slice a' n.length c']))/\Fr No w w2:=by
 obtain⟨i0,c3,c4,c5,c7⟩:=info_parts infoC
 induction m with
 | zero=>intro _ k s t e i l n a f w X h;omega
 | succ m ih=>
  intro hm k s t e i l n a f w X d6 Z;have d7:=zAP n;have h0:Fr No w ((w.alloc (.cells #[.int .i64 k,.string i,.string l,.int .i64 s,.int .i64 t,.int .i64 e,.slice a n.length f] 223)).alloc (.cells #[.int .i64 0,.string ⟨#[]⟩,.string ⟨#[]⟩,.int .i64 0,.int .i64 0,.int .i64 0,.slice none 0 0] 223)):=((Fr.refl _ _).alloc _).alloc _;have q1:=zI w (.cells #[.int .i64 k,.string i,.string l,.int .i64 s,.int .i64 t,.int .i64 e,.slice a n.length f] 223) (.cells #[.int .i64 0,.string ⟨#[]⟩,.string ⟨#[]⟩,.int .i64 0,.int .i64 0,.int .i64 0,.slice none 0 0] 223);have q2:=zL w (.cells #[.int .i64 k,.string i,.string l,.int .i64 s,.int .i64 t,.int .i64 e,.slice a n.length f] 223) (.cells #[.int .i64 0,.string ⟨#[]⟩,.string ⟨#[]⟩,.int .i64 0,.int .i64 0,.int .i64 0,.slice none 0 0] 223);have c8:((w.alloc (.cells #[.int .i64 k,.string i,.string l,.int .i64 s,.int .i64 t,.int .i64 e,.slice a n.length f] 223)).alloc (.cells #[.int .i64 0,.string ⟨#[]⟩,.string ⟨#[]⟩,.int .i64 0,.int .i64 0,.int .i64 0,.slice none 0 0] 223)).heap.size=w.heap.size+2:=by simp
  obtain⟨y,N⟩:∃ y,y=(w.alloc (.cells #[.int .i64 k,.string i,.string l,.int .i64 s,.int .i64 t,.int .i64 e,.slice a n.length f] 223)).alloc (.cells #[.int .i64 0,.string ⟨#[]⟩,.string ⟨#[]⟩,.int .i64 0,.int .i64 0,.int .i64 0,.slice none 0 0] 223):=⟨_,rfl⟩
  rw[<-N]at h0 q1 q2 c8;have a7:=Z.fr h0 (fun _ _=>id);have c6:y.cell? ⟨w.heap.size,6,none⟩=some (.slice a n.length f):=zB q1 6;have Ih:=zh (ih (by omega));have H0:=zh h0;clear ih Z h0
  go_enter Tryz.func303,Tryz.ntmps303
  go_upto_region 1 with(fail)
  rw[<-N];clear N
  go_wp2_with fail
  go_loopw [3,9] (fun v x wr=>∃ (j:Nat) (z:Option Addr) (A:Nat) (xs:List Value),j<=n.length/\v=.slice z j A/\x=.int .i64 (j:Int)/\wr.ownsRow y.heap.size 223 7 (.slice z j A) j xs/\Fr (From y.heap.size) y wr) (fun _ x _=>n.length-(intOf x).toNat)
  case atStart=>exact⟨0,none,0,[],by omega,rfl,rfl,World.ownsRow_nil _ _ _ _,Fr.refl _ _⟩
  case round=>
   obtain⟨j,z,A,xs,hj,rfl,rfl,F,g⟩:=hrel;by_cases c9:j<n.length
   ·have a8:(j:Int)<n.length:=by omega
    obtain⟨d,hd⟩:∃ d,n[j]?=some d:=⟨_,List.getElem?_eq_getElem c9⟩
    have d0:=zAw (List.mem_of_getElem? hd);obtain⟨k1,i1,l1,s1,t1,e1,n1⟩:=d;rw[Ct.count]at d0;have I:InAt wr (fun b=>b<y.heap.size) a f n:=by
     have h3:=a7.mono (Y:=fun b=>b<y.heap.size) (fun b V _=>V);exact h3.fr g (fun b V h=>by unfold From at h;omega)
    obtain⟨b,d8,a',J,rfl,V,hX,⟨y0,y1,y2,y3,y4,y5,y6⟩,L⟩:=I.at hd;have d9:=g.size;clear hd I
    go_wp2_with fail
    have hx:Fr No wr (wr.alloc (.cells #[.int .i64 k1,.string i1,.string l1,.int .i64 s1,.int .i64 t1,.int .i64 e1,.slice a' n1.length J] 223)):=(Fr.refl _ _).alloc _;refine(Ih.out k1 s1 t1 e1 i1 l1 n1 a' J _ _ (by omega) (L.fr hx (fun _ _=>id))).mono ?_;rintro e w2 ⟨⟨a2,c2,rfl⟩,a9⟩;have C:=hx.step a9 zi;have O:=zh (g.step C zn);have o:=zAK F C zi;have e0:=C.size;clear hx a9 g y0 y1 y2 y3 y4 y5 y6 L F C
    go_wp2_with (at_builtin;refine wpList_append_own_at _ rfl _ _ 221 rfl y.heap.size 223 i0 (.agg #[.int .i64 0,.string ByteArray.empty,.string ByteArray.empty,.int .i64 0,.int .i64 0,.int .i64 0,.slice none 0 0]) 7 88 Tryz.underlying221 c3 c4 c5 c7 rfl (by decide) _ _ _ rfl (o.alloc _) ⟨w2.heap.size,0,none⟩ 1 1 [.int .i64 k1,.string i1,.string l1,.int .i64 s1,.int .i64 t1,.int .i64 e1,.slice a2 n1.length c2] rfl rfl (ze _ _ _ rfl) (zCt _ _ _ _ _ _ _ _ _) (by unfold maxLen;omega) (by omega) (by first | omega | (simp;done) | (simp;omega)) ?_;intro v' wb q u _ d1;obtain⟨d2,d3,rfl⟩:=zJ q)
    have b7:Fr (From y.heap.size) w2 wb:=zBc o u;have d4:=zh (O.out.step b7 zi);have b8:=zh q;clear q u d1 b7 o
    go_wp2_with fail
    go_roundw
    case rel=>exact⟨j+1,d2,d3,_,by omega,rfl,by go_num,b8.out,d4.out⟩
    case measure=>simp[intOf];omega
   ·have a8:¬ (j:Int)<n.length:=by omega
    obtain rfl:j=n.length:=by omega
    have r1:=g.heap q1 (fun h=>by unfold From at h;omega);have r2:=g.heap q2 (fun h=>by unfold From at h;omega);have O:=zh (H0.out.trans (U:=No) g zi (fun b V h=>by unfold From at h;omega));clear g q1 q2 c6;have c6:wr.cell? ⟨w.heap.size,6,none⟩=some (.slice a n.length f):=zB r1 6;have f6:wr.frozen? ⟨w.heap.size,6,none⟩=false:=zE r1 6
    go_upto_region 8 with(fail)
    have D:Fr (Is w.heap.size) wr (wr.setCell ⟨w.heap.size,6,none⟩ (.slice z n.length A)):=Fr.setAt (Fr.refl _ _) _;have p1:=zF r1 6 (.slice z n.length A);have p2:=D.heap r2 (fun e=>by unfold Is at e;omega);have e2:w.heap.size+2<=(wr.setCell ⟨w.heap.size,6,none⟩ (.slice z n.length A)).heap.size:=by have:=zC r2;have:=D.size;omega
    have d5:=zh (O.out.step D (fun b V h=>by unfold Is at h;omega));clear r1 r2 c6 f6;generalize wr.setCell ⟨w.heap.size,6,none⟩ (.slice z n.length A)=W1 at *;obtain⟨a0,a1,a2,a3,a4,a5,a6⟩:=cl7 p1;obtain⟨b0,b1,b2,b3,b4,b5,b6⟩:=cl7 p2;obtain⟨e3,e4,e5,e6,e7,e8,e9⟩:=fl7 p2;have h7:=set7 p2 rfl (.int .i64 k) (.string i) (.string l) (.int .i64 s) (.int .i64 t) (.int .i64 e) (.slice z n.length A);have b9:=zh (d5.out.step h7.2 (fun b V h=>by unfold Is at h;omega));have R:=zh h7.1;clear p1 p2 h7 D
    go_wp2_with fail
    have y0:=zB R.out 0;have y1:=zB R.out 1;have y2:=zB R.out 2;have y3:=zB R.out 3;have y4:=zB R.out 4;have y5:=zB R.out 5;have y6:=zB R.out 6;refine bodyPost_ret (v:=.agg #[.int .i64 k,.string i,.string l,.int .i64 s,.int .i64 t,.int .i64 e,.slice z n.length A]) (by simp[results,Tryz.results303,go_sem,y0,y1,y2,y3,y4,y5,y6]) rfl ?_;exact⟨⟨z,A,rfl⟩,b9.out⟩
inductive ShFlat : List Value->List Ct->Prop
 | nil:ShFlat [] []
 | cons (k s t e:Int) (i l:ByteArray) (n:List Ct) (a:Option Addr) (cap:Nat) {vs:List Value} {cs:List Ct} (h:ShFlat vs cs):ShFlat ([.int .i64 k,.string i,.string l,.int .i64 s,.int .i64 t,.int .i64 e,.slice a n.length cap]++vs) (.mk k i l s t e n::cs)
theorem ShFlat.append {q f:List Value}{cs g:List Ct}(h:ShFlat q cs)(u:ShFlat f g):ShFlat (q++f) (cs++g):=by
 induction h with
 | nil=>exact u
 | cons k s t e i l n a o h v=>rw[List.append_assoc];exact .cons k s t e i l n a o v
theorem ShFlat.len {f:List Value}{cs:List Ct}(h:ShFlat f cs):f.length=cs.length*7:=by
 induction h with
 | nil=>rfl
 | cons k s t e i l n a g h o=>simp[o];omega
theorem ShFlat.one {g:List Value}{cs:List Ct}(h:ShFlat g cs):∀ u∈g,u.oneCell'=true:=by
 induction h with
 | nil=>intro u f;cases f
 | cons k s t e i l n a o h q=>
  intro u f;rcases List.mem_append.1 f with f | f
  ·exact zCt _ _ _ _ _ _ _ _ _ u f
  ·exact q u f
theorem ShFlat.at {u:List Value}{cs:List Ct}(h:ShFlat u cs){j:Nat}{k s t e:Int}{i l:ByteArray}{n:List Ct}(o:cs[j]?=some (.mk k i l s t e n)):
  ∃ a f,∀ q,q<7->u[j*7+q]?=[Value.int .i64 k,.string i,.string l,.int .i64 s,.int .i64 t,.int .i64 e,.slice a n.length f][q]?:=by
 induction h generalizing j with
 | nil=>simp at o
 | cons C D F I J l' L a f h y=>
  cases j with
  | zero=>
   simp at o;obtain⟨rfl,rfl,rfl,rfl,rfl,rfl,rfl⟩:=o;exact⟨a,f,fun q v=>by rw[List.getElem?_append_left (by simp;omega)];simp⟩
  | succ j=>
   obtain⟨z,g,A⟩:=y (by simpa using o);exact⟨z,g,fun q v=>by rw[List.getElem?_append_right (by simp;omega),<-A q v];congr 1;simp;omega⟩
theorem zH7 {w:World}{f:Nat}{z:TypeId}{A:Nat}{a:Option Addr}{n c m:Nat}{y:List Value}(h:w.ownsRow f z A (.slice a n c) m y):∀ q,a=some q->∀ j u,y[j]?=some u->w.cell? (q.add j)=some u:=by
 rintro q rfl j u o;obtain⟨_,⟨v,J⟩ | ⟨g,C,D,v,L,F,N,O,R,I⟩⟩:=h
 ·cases v
 ·cases v;rw[Addr.add_lit,zB F];rw[<-I]at o;rw[<-Array.getElem?_toList];rw[List.getElem?_take]at o;split at o
  ·simpa using o
  ·cases o
theorem zFc {w:World}{f:Nat}{q:TypeId}{u:Nat}{a:Option Addr}{n c m:Nat}{v:List Value}(h:w.ownsRow f q u (.slice a n c) m v)(e:a=none):m=0/\c=0:=by
 subst e;obtain⟨_,⟨o,y⟩ | ⟨g,z,A,o,C,D,F,I,J,L⟩⟩:=h
 ·cases o;exact⟨y,rfl⟩
 ·cases o
theorem zDg {n:List Ct}{j:Nat}{d:Ct}(h:n[j]?=some d):Ct.walks (n.take (j+1))=Ct.walks (n.take j)++d.walk:=by
 rw[List.take_add_one,h,zAk];show _++(d.walk++[])=_
 rw[List.append_nil]
theorem zFD {n:List Ct}(j:Nat):Ct.counts (n.take j)<=Ct.counts n:=by
 have f:=zAO (n.take j) (n.drop j);rw[List.take_append_drop]at f;omega
theorem zJy (m:Nat):m<=10000->∀ (k s t e:Int) (i l:ByteArray) (n:List Ct) (a:Option Addr) (f:Nat) (w:World) (X:Nat->Prop),Ct.counts n<m->InAt w X a f n->
  Calls Tryz.prog 277 #[.agg #[.int .i64 k,.string i,.string l,.int .i64 s,.int .i64 t,.int .i64 e,.slice a n.length f]] w fun en w2=>(∃ a' c' O,en=.returned (.slice a' (Ct.counts n+1) c')/\ShFlat O (Ct.mk k i l s t e n).walk/\w2.ownsRow w.heap.size 223 7 (.slice a' (Ct.counts n+1) c') (Ct.counts n+1) O)/\Fr No w w2:=by
 obtain⟨i0,c9,d0,d1,d2⟩:=info_parts infoC
 induction m with
 | zero=>intro _ k s t e i l n a f w X h;omega
 | succ m ih=>
  intro hm k s t e i l n a f w X d3 b0;have e9:=zAP n;have h0:Fr No w (w.alloc (.cells #[.int .i64 k,.string i,.string l,.int .i64 s,.int .i64 t,.int .i64 e,.slice a n.length f] 223)):=(Fr.refl _ _).alloc _;have q1:=zD w (.cells #[.int .i64 k,.string i,.string l,.int .i64 s,.int .i64 t,.int .i64 e,.slice a n.length f] 223);have d4:(w.alloc (.cells #[.int .i64 k,.string i,.string l,.int .i64 s,.int .i64 t,.int .i64 e,.slice a n.length f] 223)).heap.size=w.heap.size+1:=by simp
  obtain⟨W0,a5⟩:∃ W0,W0=w.alloc (.cells #[.int .i64 k,.string i,.string l,.int .i64 s,.int .i64 t,.int .i64 e,.slice a n.length f] 223):=⟨_,rfl⟩
  rw[<-a5]at h0 q1 d4;have A:=(b0.mono (Y:=fun b=>b<w.heap.size) (fun b hb _=>hb)).fr h0 (fun _ _=>id);obtain⟨c0,c1,c2,c3,c4,c5,c6⟩:=cl7 q1;have Ih:=zh (ih (by omega));have H0:=zh h0;clear ih b0 h0
  go_enter Tryz.func277,Tryz.ntmps277
  go_upto_region 1 with(fail)
  rw[<-a5];clear a5
  go_wp2_with fail
  refine(zHU (m+1) hm k s t e i l n a f _ _ d3 A).mono ?_;rintro en o ⟨⟨ac,cc,rfl⟩,C⟩;have b1:=C.heap q1 id;have f0:=C.size;have R:=A.fr C (fun _ _=>id);have D:Fr No o (o.alloc (.cells #[.int .i64 k,.string i,.string l,.int .i64 s,.int .i64 t,.int .i64 e,.slice ac n.length cc] 223)):=(Fr.refl _ _).alloc _;have qb:=zD o (.cells #[.int .i64 k,.string i,.string l,.int .i64 s,.int .i64 t,.int .i64 e,.slice ac n.length cc] 223);have d5:(o.alloc (.cells #[.int .i64 k,.string i,.string l,.int .i64 s,.int .i64 t,.int .i64 e,.slice ac n.length cc] 223)).heap.size=o.heap.size+1:=by simp
  obtain⟨WB,N⟩:∃ WB,WB=o.alloc (.cells #[.int .i64 k,.string i,.string l,.int .i64 s,.int .i64 t,.int .i64 e,.slice ac n.length cc] 223):=⟨_,rfl⟩
  have a6:WB.ownsRow o.heap.size 223 7 (.slice (some ⟨o.heap.size,0,none⟩) 1 1) 1 [.int .i64 k,.string i,.string l,.int .i64 s,.int .i64 t,.int .i64 e,.slice ac n.length cc]:=
   ⟨rfl,.inr ⟨o.heap.size,1,_,rfl,Nat.le_refl _,by rw[N];exact qb,Nat.le_refl _,by unfold maxLen;omega,rfl,rfl⟩⟩
  rw[<-N]at D qb d5;have d6:=D.heap b1 id;have b2:=R.fr D (fun _ _=>id);have b3:=zh ((H0.out.step C zi).step D zi);clear c0 c1 c2 c3 c4 c5 c6 q1 b1 C D qb R A;have c6:WB.cell? ⟨w.heap.size,6,none⟩=some (.slice a n.length f):=zB d6 6
  go_upto_region 2 with(fail)
  rw[<-N];clear N
  go_wp2_with fail
  go_loopw [3,12] (fun v x wr=>∃ (j:Nat) (av:Option Addr) (cv:Nat) (O:List Value),j<=n.length/\v=.slice av (Ct.counts (n.take j)+1) cv/\x=.int .i64 (j:Int)/\Hid (ShFlat O (.mk k i l s t e n::Ct.walks (n.take j)))/\wr.ownsRow o.heap.size 223 7 (.slice av (Ct.counts (n.take j)+1) cv) (Ct.counts (n.take j)+1) O/\Fr (From o.heap.size) WB wr/\InAt wr (fun b=>b<o.heap.size) a f n) (fun _ x _=>n.length-(intOf x).toNat)
  case atStart=>
   refine⟨0,some ⟨o.heap.size,0,none⟩,1,_,by omega,rfl,rfl,?_,a6,Fr.refl _ _,?_⟩
   ·have h:=ShFlat.cons k s t e i l n ac cc ShFlat.nil;exact h
   ·exact b2.mono (fun b _ hb=>by omega)
  case round=>
   obtain⟨j,av,cv,O,hj,rfl,rfl,a7,g,F,z⟩:=hrel;have f1:=zFD (n:=n) j;by_cases d7:j<n.length
   ·have b4:(j:Int)<n.length:=by omega
    obtain⟨d,hd⟩:∃ d,n[j]?=some d:=⟨_,List.getElem?_eq_getElem d7⟩
    have d8:=zAw (List.mem_of_getElem? hd);have d9:=zh (zDg hd);have e0:Ct.counts (n.take (j+1))=Ct.counts (n.take j)+d.count:=by rw[<-zBq,<-zBq,<-zCY,zDg hd,List.length_append]
    have e8:=zFD (n:=n) (j+1);obtain⟨k1,i1,l1,s1,t1,e1,n1⟩:=d;rw[Ct.count]at d8 e0;obtain⟨b,f2,a',I,rfl,hb,hX,⟨y0,y1,y2,y3,y4,y5,y6⟩,V⟩:=z.at hd;have f3:=F.size;have hx:Fr No wr (wr.alloc (.cells #[.int .i64 k1,.string i1,.string l1,.int .i64 s1,.int .i64 t1,.int .i64 e1,.slice a' n1.length I] 223)):=(Fr.refl _ _).alloc _;have f4:(wr.alloc (.cells #[.int .i64 k1,.string i1,.string l1,.int .i64 s1,.int .i64 t1,.int .i64 e1,.slice a' n1.length I] 223)).heap.size=wr.heap.size+1:=by simp
    have Z:=V.fr hx (fun _ _=>id);have b5:=zh z;clear hd z V;generalize e2:Ct.counts (n.take j)=cj at *;clear e2
    go_wp2_with fail
    refine(Ih.out k1 s1 t1 e1 i1 l1 n1 a' I _ _ (by omega) Z).mono ?_;rintro e w2 ⟨⟨a2,c2,e3,rfl,a8,q⟩,b6⟩;have J:=hx.step b6 zi;have e4:=zh (F.step J zn);have u:=zAK g J zi;have f5:=J.size;have b7:=a8.len;rw[zCY,Ct.count]at b7;have b8:=zh (a7.out.append a8);have b9:=zh (b5.out.fr J (fun _ _=>id));clear hx b6 F y0 y1 y2 y3 y4 y5 y6 Z g J
    go_wp2_with (at_builtin;refine zy rfl _ _ 221 rfl o.heap.size 223 i0 (.agg #[.int .i64 0,.string ByteArray.empty,.string ByteArray.empty,.int .i64 0,.int .i64 0,.int .i64 0,.slice none 0 0]) 7 88 Tryz.underlying221 c9 d0 d1 d2 rfl (by decide) _ (cj+1) O rfl u a2 (Ct.counts n1+1) c2 e3 rfl (fun e=>absurd (zFc q e).1 (by omega)) b7 (fun ad e=>zH7 q ad e) a8.one (by unfold maxLen;omega) (by omega) (by first | omega | (simp;done) | (simp;omega)) ?_;intro v' wb y L;obtain⟨e5,e6,rfl⟩:=zJ y)
    have a9:Fr (From o.heap.size) w2 wb:=zGG u L;have e7:=zh (e4.out.step a9 zi);have c7:=zh y;have c8:=zh (b9.out.fr a9 (fun b hb h=>by unfold From at h;omega));have a3:cj+1+(Ct.counts n1+1)=Ct.counts (n.take (j+1))+1:=by omega
    have a4:=zh a3;clear y L a9 q u a3
    go_wp2_with fail
    go_roundw
    case rel=>exact⟨j+1,e5,e6,_,by omega,by rw[a4.out],by go_num,by rw[d9.out];exact b8.out,by rw[<-a4.out];exact c7.out,e7.out,c8.out⟩
    case measure=>simp[intOf];omega
   ·have b4:¬ (j:Int)<n.length:=by omega
    obtain rfl:j=n.length:=by omega
    rw[List.take_length]at g a7 ⊢;have Ho:=zh (zAT (base':=w.heap.size) g (by omega));have Hf:=zh (b3.out.trans (U:=No) F zi (fun b hb h=>by unfold From at h;omega));clear g F z
    go_wp2_with fail
    go_ret;exact⟨⟨av,cv,rfl,O,by rw[Ct.walk];exact a7.out,Ho.out⟩,Hf.out⟩
theorem zB4 (x y:Int)(w:World):
  Calls Tryz.prog 307 #[.int .i64 x,.int .i64 y] w fun h o=>h=.returned (.bool (decide (1<=x)&&decide (x<=y)))/\w=o:=by
 go_enter Tryz.func307,Tryz.ntmps307
 by_cases f:1<=x
 ·by_cases g:x<=y
  ·go_wp2_with fail
   go_ret;simp[f,g]
  ·go_wp2_with fail
   go_ret;simp[g]
 ·have q:=zh (decide_eq_false f)
  go_wp2_with fail
  go_ret;rw[q.out];simp
theorem zIq (k s t e:Int)(i l:ByteArray)(v:Value)(w:World):
  Calls Tryz.prog 306 #[.agg #[.int .i64 k,.string i,.string l,.int .i64 s,.int .i64 t,.int .i64 e,v]] w fun g A=>g=.returned (.bool (zAH s t))/\Fr No w A:=by
 have q:zAH s t=((decide (1<=t)&&decide (t<=16))&&(decide (1<=s)&&decide (s<=t))):=by unfold zAH;rw[Bool.and_assoc]
 rw[q];clear q;have h:Fr No w (w.alloc (.cells #[.int .i64 k,.string i,.string l,.int .i64 s,.int .i64 t,.int .i64 e,v] 223)):=(Fr.refl _ _).alloc _;have u:=zD w (.cells #[.int .i64 k,.string i,.string l,.int .i64 s,.int .i64 t,.int .i64 e,v] 223);obtain⟨y,f⟩:∃ y,y=w.alloc (.cells #[.int .i64 k,.string i,.string l,.int .i64 s,.int .i64 t,.int .i64 e,v] 223):=⟨_,rfl⟩
 rw[<-f]at h u;obtain⟨-,-,-,D,F⟩:=cl5 u;have z:=zh h;clear h
 go_enter Tryz.func306,Tryz.ntmps306
 go_upto_region 1 with(fail)
 rw[<-f];clear f
 go_wp2_with fail
 refine(zB4 t 16 _).mono ?_;rintro g C ⟨rfl,rfl⟩;cases hb:(decide (1<=t)&&decide (t<=16))with
 | true=>
  have o:=zh hb;clear hb
  go_wp2_with fail
  refine(zB4 s t _).mono ?_;rintro g C ⟨rfl,rfl⟩
  go_wp2_with fail
  go_ret;exact⟨by rw[o.out];simp,z.out⟩
 | false=>
  have o:=zh hb;clear hb
  go_wp2_with fail
  go_ret;exact⟨by rw[o.out];rfl,z.out⟩
theorem zHL (b:UInt8):idByte b=decide ((65<=b.toNat/\b.toNat<=90)\/(97<=b.toNat/\b.toNat<=122)\/(48<=b.toNat/\b.toNat<=57)\/b.toNat=95\/b.toNat=46\/b.toNat=45):=by
 have f:(b=95)=(b.toNat=95):=by rw[<-UInt8.toNat_inj];rfl
 have g:(b=46)=(b.toNat=46):=by rw[<-UInt8.toNat_inj];rfl
 have o:(b=45)=(b.toNat=45):=by rw[<-UInt8.toNat_inj];rfl
 rw[idByte,Bool.eq_iff_iff];simp only[Bool.or_eq_true,Bool.and_eq_true,decide_eq_true_eq,UInt8.le_iff_toNat_le,f,g,o];have h:(65:UInt8).toNat=65/\(90:UInt8).toNat=90/\(97:UInt8).toNat=97/\(122:UInt8).toNat=122/\(48:UInt8).toNat=48/\(57:UInt8).toNat=57:=⟨rfl,rfl,rfl,rfl,rfl,rfl⟩
 rw[h.1,h.2.1,h.2.2.1,h.2.2.2.1,h.2.2.2.2.1,h.2.2.2.2.2];omega
theorem zJm {s:ByteArray}{j:Nat}(h:j<s.size)(g:idByte (s.data.toList.getD j 0)=false):isId s=false:=by
 unfold isId;have o:s.data.toList.getD j 0∈bl s:=by
  have f:j<s.data.toList.length:=h;rw[List.getD_eq_getElem?_getD,List.getElem?_eq_getElem f];exact List.getElem_mem f
 have q:(bl s).all idByte=false:=List.all_eq_false.2 ⟨_,o,by rw[g];simp⟩;rw[q,Bool.and_false]
theorem zDM (s:ByteArray)(w:World)(hs:s.size<=100000):
  Calls Tryz.prog 305 #[.string s] w fun en w2=>en=.returned (.bool (isId s))/\Fr No w w2:=by
 have I:=Lib.run_convert_string_bytes (P:=Tryz.prog) w 9 244 5 s (u:=.string) Tryz.underlying9 Tryz.underlying244 Tryz.underlying5;have R:Fr No w (Lib.bytesWorld w 5 s):=⟨rfl,rfl,rfl,by rw[Lib.bytesWorld_size];omega,fun k hk _=>Lib.bytesWorld_at_old _ _ _ _ hk⟩
 have y:=Lib.bytesWorld_cell w 5 s;generalize grownCap w s.size 0 5=cp at I;obtain⟨W0,hW⟩:∃ W0,W0=Lib.bytesWorld w 5 s:=⟨_,rfl⟩
 rw[<-hW]at I R y;have C:=zh R;have U:=zh y;have J:(bl s).length=s.size:=rfl;clear R hW y
 go_enter Tryz.func305,Tryz.ntmps305
 go_wp2_with fail
 go_loop [8] (fun i=>∃ j:Nat,j<=s.size/\i=.int .i64 (j:Int)/\Hid (((bl s).take j).all idByte=true)) (fun i=>s.size-(intOf i).toNat)
 case atStart=>exact⟨0,by omega,rfl,rfl⟩
 case round=>
  obtain⟨j,hj,rfl,v⟩:=hrel;by_cases z:j<s.size
  ·have a2:(j:Int)<s.size:=by omega
   have hc:=U.out j z;have o:=zh (zJm z);have q:Hid (((bl s).take (j+1)).all idByte=idByte (s.data.toList.getD j 0)):=by
    unfold Hid;have V:j<s.data.toList.length:=z;rw[List.take_add_one,List.all_append,v.out,Bool.true_and];show ((s.data.toList)[j]?.toList).all idByte=_
    rw[List.getD_eq_getElem?_getD,List.getElem?_eq_getElem V];simp
   have f:=zHL (s.data.toList.getD j 0);obtain⟨N,X⟩:∃ N:Nat,(s.data.toList.getD j 0).toNat=N:=⟨_,rfl⟩
   rw[X]at hc f;have a3:N<256:=by rw[<-X];exact UInt8.toNat_lt _
   clear X;generalize s.data.toList.getD j 0=b at *;rcases(by omega:(65<=N/\N<=90)\/(97<=N/\N<=122)\/(48<=N/\N<=57)\/N=95\/N=46\/N=45\/(N<48/\N≠46/\N≠45)\/(58<=N/\N<65)\/(91<=N/\N<97/\N≠95)\/123<=N)with c | c | c | c | c | c | c | c | c | c
   ·have g:Hid (idByte b=true):=by unfold Hid;rw[f];exact decide_eq_true (by omega)
    clear f;have D:(65:Int)<=(N:Int):=by omega
    have F:(N:Int)<=90:=by omega
    go_wp2_with fail
    go_roundw
    case rel=>exact⟨j+1,by omega,by go_num,by rw[q.out,g.out];rfl⟩
    case measure=>simp[intOf];omega
   ·have g:Hid (idByte b=true):=by unfold Hid;rw[f];exact decide_eq_true (by omega)
    clear f;have D:(65:Int)<=(N:Int):=by omega
    have F:¬ (N:Int)<=90:=by omega
    have L:(97:Int)<=(N:Int):=by omega
    have O:(N:Int)<=122:=by omega
    go_wp2_with fail
    go_roundw
    case rel=>exact⟨j+1,by omega,by go_num,by rw[q.out,g.out];rfl⟩
    case measure=>simp[intOf];omega
   ·have g:Hid (idByte b=true):=by unfold Hid;rw[f];exact decide_eq_true (by omega)
    clear f;have D:¬ (65:Int)<=(N:Int):=by omega
    have F:¬ (97:Int)<=(N:Int):=by omega
    have L:(48:Int)<=(N:Int):=by omega
    have O:(N:Int)<=57:=by omega
    go_wp2_with fail
    go_roundw
    case rel=>exact⟨j+1,by omega,by go_num,by rw[q.out,g.out];rfl⟩
    case measure=>simp[intOf];omega
   ·have g:Hid (idByte b=true):=by unfold Hid;rw[f];exact decide_eq_true (by omega)
    clear f;subst c
    go_wp2_with fail
    go_roundw
    case rel=>exact⟨j+1,by omega,by go_num,by rw[q.out,g.out];rfl⟩
    case measure=>simp[intOf];omega
   ·have g:Hid (idByte b=true):=by unfold Hid;rw[f];exact decide_eq_true (by omega)
    clear f;subst c
    go_wp2_with fail
    go_roundw
    case rel=>exact⟨j+1,by omega,by go_num,by rw[q.out,g.out];rfl⟩
    case measure=>simp[intOf];omega
   ·have g:Hid (idByte b=true):=by unfold Hid;rw[f];exact decide_eq_true (by omega)
    clear f;subst c
    go_wp2_with fail
    go_roundw
    case rel=>exact⟨j+1,by omega,by go_num,by rw[q.out,g.out];rfl⟩
    case measure=>simp[intOf];omega
   ·have g:Hid (idByte b=false):=by unfold Hid;rw[f];exact decide_eq_false (by omega)
    clear f;have D:¬ (65:Int)<=(N:Int):=by omega
    have F:¬ (97:Int)<=(N:Int):=by omega
    have L:¬ (48:Int)<=(N:Int):=by omega
    have O:¬ (N:Int)=95:=by omega
    have Y:¬ (N:Int)=46:=by omega
    have Z:¬ (N:Int)=45:=by omega
    go_wp2_with fail
    go_ret;exact⟨by rw[o.out g.out];rfl,C.out⟩
   ·have g:Hid (idByte b=false):=by unfold Hid;rw[f];exact decide_eq_false (by omega)
    clear f;have D:¬ (65:Int)<=(N:Int):=by omega
    have F:¬ (97:Int)<=(N:Int):=by omega
    have L:(48:Int)<=(N:Int):=by omega
    have O:¬ (N:Int)<=57:=by omega
    have Y:¬ (N:Int)=95:=by omega
    have Z:¬ (N:Int)=46:=by omega
    have n6:¬ (N:Int)=45:=by omega
    go_wp2_with fail
    go_ret;exact⟨by rw[o.out g.out];rfl,C.out⟩
   ·have g:Hid (idByte b=false):=by unfold Hid;rw[f];exact decide_eq_false (by omega)
    clear f;have D:(65:Int)<=(N:Int):=by omega
    have F:¬ (N:Int)<=90:=by omega
    have L:¬ (97:Int)<=(N:Int):=by omega
    have O:(48:Int)<=(N:Int):=by omega
    have Y:¬ (N:Int)<=57:=by omega
    have Z:¬ (N:Int)=95:=by omega
    have n6:¬ (N:Int)=46:=by omega
    have n7:¬ (N:Int)=45:=by omega
    go_wp2_with fail
    go_ret;exact⟨by rw[o.out g.out];rfl,C.out⟩
   ·have g:Hid (idByte b=false):=by unfold Hid;rw[f];exact decide_eq_false (by omega)
    clear f;have D:(65:Int)<=(N:Int):=by omega
    have F:¬ (N:Int)<=90:=by omega
    have L:(97:Int)<=(N:Int):=by omega
    have O:¬ (N:Int)<=122:=by omega
    have Y:(48:Int)<=(N:Int):=by omega
    have Z:¬ (N:Int)<=57:=by omega
    have n6:¬ (N:Int)=95:=by omega
    have n7:¬ (N:Int)=46:=by omega
    have n8:¬ (N:Int)=45:=by omega
    go_wp2_with fail
    go_ret;exact⟨by rw[o.out g.out];rfl,C.out⟩
  ·obtain rfl:j=s.size:=by omega
   have Hr:Hid (isId s=(!(bl s).isEmpty&&decide (s.size<=16))):=by
    have h:=v.out;have V:(bl s).take s.size=bl s:=by rw[<-J,List.take_length]
    rw[V]at h;unfold Hid isId;rw[h,Bool.and_true,J]
   have he:s.toList.isEmpty=(bl s).isEmpty:=by rw[ByteArray.toList_eq]
   cases hem:(bl s).isEmpty with
   | true=>
    rw[hem]at he;have A:=zh hem;clear hem
    go_wp2_with fail
    go_ret;exact⟨by rw[Hr.out,A.out];rfl,C.out⟩
   | false=>
    rw[hem]at he;have A:=zh hem;clear hem
    go_wp2_with fail
    go_ret;exact⟨by rw[Hr.out,A.out];simp;try omega,C.out⟩
theorem zMQ (a:Option Addr)(n f:Nat)(v:Value)(w:World)(q:n<=100000):
  Calls Tryz.prog 329 #[.slice a n f,.slice none 0 0,v] w fun g o=>g=.returned (.bool (decide (n=0)))/\w=o:=by
 go_enter Tryz.func329,Tryz.ntmps329
 by_cases h:n=0
 ·subst h
  go_wp2_with fail
  go_loop [17] (fun i=>i=.int .i64 0) (fun i=>0)
  case atStart=>rfl
  case round=>
   subst hrel
   go_wp2_with fail
   go_ret;exact⟨rfl,rfl⟩
 ·have u:¬ (n:Int)=0:=by omega
  go_wp2_with fail
  go_ret;exact⟨by rw[decide_eq_false h];rfl,rfl⟩
def sameB (k s t e k' s' t' e':Int)(i l i' l':ByteArray)(n:Nat):Bool:=decide (k=k')&&(i.toList==i'.toList)&&(l.toList==l'.toList)&&decide (s=s')&&decide (t=t')&&decide (e=e')&&decide (n=0)
theorem zDL (k s t e h o q u:Int)(i l v l':ByteArray)(a:Option Addr)(n f:Nat)(w:World)(V:n<=100000):
  Calls Tryz.prog 304 #[.agg #[.int .i64 k,.string i,.string l,.int .i64 s,.int .i64 t,.int .i64 e,.slice a n f],.agg #[.int .i64 h,.string v,.string l',.int .i64 o,.int .i64 q,.int .i64 u,.slice none 0 0]] w fun J X=>J=.returned (.bool (sameB k s t e h o q u i l v l' n))/\Fr No w X:=by
 have C:Fr No w ((w.alloc (.cells #[.int .i64 k,.string i,.string l,.int .i64 s,.int .i64 t,.int .i64 e,.slice a n f] 223)).alloc (.cells #[.int .i64 h,.string v,.string l',.int .i64 o,.int .i64 q,.int .i64 u,.slice none 0 0] 223)):=((Fr.refl _ _).alloc _).alloc _;have D:=zI w (.cells #[.int .i64 k,.string i,.string l,.int .i64 s,.int .i64 t,.int .i64 e,.slice a n f] 223) (.cells #[.int .i64 h,.string v,.string l',.int .i64 o,.int .i64 q,.int .i64 u,.slice none 0 0] 223);have F:=zL w (.cells #[.int .i64 k,.string i,.string l,.int .i64 s,.int .i64 t,.int .i64 e,.slice a n f] 223) (.cells #[.int .i64 h,.string v,.string l',.int .i64 o,.int .i64 q,.int .i64 u,.slice none 0 0] 223);obtain⟨L,y⟩:∃ L,L=(w.alloc (.cells #[.int .i64 k,.string i,.string l,.int .i64 s,.int .i64 t,.int .i64 e,.slice a n f] 223)).alloc (.cells #[.int .i64 h,.string v,.string l',.int .i64 o,.int .i64 q,.int .i64 u,.slice none 0 0] 223):=⟨_,rfl⟩
 rw[<-y]at C D F;obtain⟨a0,a1,a2,a3,a4,a5,a6⟩:=cl7 D;obtain⟨b0,b1,b2,b3,b4,b5,b6⟩:=cl7 F;have g:=zh C;clear C D F
 go_enter Tryz.func304,Tryz.ntmps304
 go_upto_region 1 with(fail)
 rw[<-y];clear y;by_cases N:k=h
 case neg=>
  have Y:=zh (decide_eq_false N)
  go_wp2_with fail
  go_ret;exact⟨by unfold sameB;rw[Y.out];simp,g.out⟩
 subst N;cases hi:(i.toList==v.toList)with
 | false=>
  have z:=zh hi
  go_wp2_with fail
  go_ret;exact⟨by unfold sameB;rw[z.out];simp,g.out⟩
 | true=>
  have z:=zh hi;cases hl:(l.toList==l'.toList)with
  | false=>
   have A:=zh hl
   go_wp2_with fail
   go_ret;exact⟨by unfold sameB;rw[A.out];simp,g.out⟩
  | true=>
   have A:=zh hl;by_cases O:s=o
   case neg=>
    have Z:=zh (decide_eq_false O)
    go_wp2_with fail
    go_ret;exact⟨by unfold sameB;rw[Z.out];simp,g.out⟩
   subst O;by_cases R:t=q
   case neg=>
    have Ht:=zh (decide_eq_false R)
    go_wp2_with fail
    go_ret;exact⟨by unfold sameB;rw[Ht.out];simp,g.out⟩
   subst R;by_cases U:e=u
   case neg=>
    have He:=zh (decide_eq_false U)
    go_wp2_with fail
    go_ret;exact⟨by unfold sameB;rw[He.out];simp,g.out⟩
   subst U
   go_wp2_with fail
   refine(zMQ a n f _ _ V).mono ?_;rintro J w1 ⟨rfl,rfl⟩;cases hd:decide (n=0)with
   | true=>
    have I:=zh hd;clear hd
    go_wp2_with fail
    go_ret;exact⟨by unfold sameB;rw[z.out,A.out,I.out];simp,g.out⟩
   | false=>
    have I:=zh hd;clear hd
    go_wp2_with fail
    go_ret;exact⟨by unfold sameB;rw[z.out,A.out,I.out];simp,g.out⟩
end Go.Proofs.YtinfjnndbfahhaaGreatDoor
