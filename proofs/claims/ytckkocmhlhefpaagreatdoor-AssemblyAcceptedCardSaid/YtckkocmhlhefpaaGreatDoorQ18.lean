import Derived.Test.YtckkocmhlhefpaaGreatDoorQ17
namespace Go.Proofs.YtckkocmhlhefpaaGreatDoor
open Go.RowKit Go.Maps
set_option linter.unusedVariables false
set_option maxRecDepth 100000
set_option maxHeartbeats 2000000
open Ct renaming counts->aa,walks->aw
open Fr renaming refl->L,setAt->af
open Go renaming World->ai,Calls->al
open Go.Lib renaming bytesWorld->ba
open Go.Proofs renaming intOf->ah
open Go.Proofs.Tryz renaming prog->aj
open Go.RowKit renaming Hid->T
open IntKind renaming i64->E
open Obj renaming cells->S
open Value renaming int->C,string->B,slice->q
open _root_ renaming Int->G,Nat->H,if_neg->M,ByteArray->p,List->ab,decide_eq_false->ae,decide_eq_true->ag,UInt8->am,Option->an,decide_true->ap,if_pos->aq
open _root_.Bool renaming false->K,true->r,true_and->ak,and_true->ao,and_assoc->ar,eq_iff_iff->au
open _root_.ByteArray renaming empty->az
open _root_.List renaming getElem?_eq_getElem->ax,getD_eq_getElem?_getD->bb,take_add_one->bc,take_length->bd
open _root_.Nat renaming le_refl->be
open _root_.Option renaming none->Q,some->f
open _root_.UInt8 renaming toNat_inj->ay
variable{w:ai}{o c m j:H}{a:an Addr}{n:ab Ct}
theorem zJ8 {D:TypeId}{F:H}{n:H}{A:ab Value}(h:w.ownsRow o D F (q a n c) m A):∀ y,a=f y->∀ j u,A[j]?=f u->w.cell? (y.add j)=f u:=by
 rintro y rfl j u v;obtain⟨_,⟨z,R⟩|⟨g,I,J,z,U,N,V,X,Y,O⟩⟩:=h
 .cases z
 .cases z;rw[Addr.add_lit,zB N];rw[<-O]at v;rw[<-Array.getElem?_toList];rw[List.getElem?_take]at v;split at v
  .simpa using v
  .cases v
theorem zG6 {v:TypeId}{y:H}{n:H}{z:ab Value}(h:w.ownsRow o v y (q a n c) m z)(e:a=Q):m=0/\c=0:=by
 subst e;obtain⟨_,⟨u,A⟩|⟨g,D,F,u,I,J,N,O,R,U⟩⟩:=h
 .cases u;exact⟨A,rfl⟩
 .cases u
theorem zEh {d:Ct}(h:n[j]?=f d):aw (n.take (j+1))=aw (n.take j)++d.walk:=by
 rw[bc,h,zA2];show _++(d.walk++[])=_
 rw[List.append_nil]
theorem zGd (j:H):aa (n.take j)<=aa n:=by
 have h:=zAY (n.take j) (n.drop j);rw[List.take_append_drop]at h;omega
theorem zMR (m:H):m<=10000->∀ (k s t e:G) (i l:p) (n:ab Ct) (a:an Addr) (o:H) (w:ai) (X:H->Prop),aa n<m->InAt w X a o n->
  al aj 276 #[.agg #[C E k,B i,B l,C E s,C E t,C E e,q a n.length o]] w λen w2=>(∃ a' c' xs,en=.returned (q a' (aa n+1) c')/\ShFlat xs (Ct.mk k i l s t e n).walk/\w2.ownsRow (w:H) 224 7 (q a' (aa n+1) c') (aa n+1) xs)/\Fr No w w2:=by
 obtain⟨i0,d6,d7,d8,d9⟩:=info_parts infoC
 induction m with
 | zero=>intro _ k s t e i l n a o w X h;omega
 | succ m ih=>
  intro hm k s t e i l n a o w X e0 b4;have g6:=zAa n;have h0:Fr No w (w.alloc (S #[C E k,B i,B l,C E s,C E t,C E e,q a n.length o] 224)):=(L _ _).alloc _;have q1:=zF w (S #[C E k,B i,B l,C E s,C E t,C E e,q a n.length o] 224);have e2:(w.alloc (S #[C E k,B i,B l,C E s,C E t,C E e,q a n.length o] 224)).heap.size=(w:H)+1:=by simp
  obtain⟨W0,a9⟩:∃ W0,W0=w.alloc (S #[C E k,B i,B l,C E s,C E t,C E e,q a n.length o] 224):=⟨_,rfl⟩
  rw[<-a9]at h0 q1 e2;have I:=(b4.mono (Y:=λb=>b<(w:H)) (λb hb _=>hb)).fr h0 (λ_ _=>id);obtain⟨c0,c1,c2,c3,c4,c5,c6⟩:=cl7 q1;have Ih:=zh (ih (by omega));have H0:=zh h0;clear ih b4 h0
  go_enter Tryz.func276,Tryz.ntmps276
  go_upto_region 1 with(fail)
  rw[<-a9];clear a9
  go_wp2_with fail
  refine(zJH (m+1) hm k s t e i l n a o _ _ e0 I).mono ?_;rintro en y ⟨⟨ac,cc,rfl⟩,J⟩;have b5:=J.heap q1 id;have g7:=J.size;have a4:=I.fr J (λ_ _=>id);have N:Fr No y (y.alloc (S #[C E k,B i,B l,C E s,C E t,C E e,q ac n.length cc] 224)):=(L _ _).alloc _;have qb:=zF y (S #[C E k,B i,B l,C E s,C E t,C E e,q ac n.length cc] 224);have e3:(y.alloc (S #[C E k,B i,B l,C E s,C E t,C E e,q ac n.length cc] 224)).heap.size=(y:H)+1:=by simp
  obtain⟨WB,a3⟩:∃ WB,WB=y.alloc (S #[C E k,B i,B l,C E s,C E t,C E e,q ac n.length cc] 224):=⟨_,rfl⟩
  have b0:WB.ownsRow (y:H) 224 7 (q (f ⟨y,0,Q⟩) 1 1) 1 [C E k,B i,B l,C E s,C E t,C E e,q ac n.length cc]:=
   ⟨rfl,.inr ⟨(y:H),1,_,rfl,be _,by rw[a3];exact qb,be _,by unfold maxLen;omega,rfl,rfl⟩⟩
  rw[<-a3]at N qb e3;have e4:=N.heap b5 id;have b6:=a4.fr N (λ_ _=>id);have b7:=zh ((H0.out.step J zi).step N zi);clear c0 c1 c2 c3 c4 c5 c6 q1 b5 J N qb a4 I;have c6:WB.cell? ⟨w,6,Q⟩=f (q a n.length o):=zB e4 6
  go_upto_region 2 with(fail)
  rw[<-a3];clear a3
  go_wp2_with fail
  go_loopw [3,12] (λv x wr=>∃ (j:H) (av:an Addr) (cv:H) (xs:ab Value),j<=n.length/\v=q av (aa (n.take j)+1) cv/\x=C E (j:G)/\T (ShFlat xs (.mk k i l s t e n::aw (n.take j)))/\wr.ownsRow (y:H) 224 7 (q av (aa (n.take j)+1) cv) (aa (n.take j)+1) xs/\Fr (From (y:H)) WB wr/\InAt wr (λb=>b<(y:H)) a o n) (λ_ x _=>n.length-(ah x).toNat)
  case atStart=>
   refine⟨0,f ⟨y,0,Q⟩,1,_,by omega,rfl,rfl,?_,b0,L _ _,?_⟩
   .have h:=ShFlat.cons k s t e i l n ac cc ShFlat.nil;exact h
   .exact b6.mono (λb _ hb=>by omega)
  case round=>
   obtain⟨j,av,cv,xs,hj,rfl,rfl,b1,u,O,F⟩:=hrel;have g8:=zGd (n:=n) j;by_cases e5:j<n.length
   .have b8:(j:G)<n.length:=by omega
    obtain⟨d,hd⟩:∃ d,n[j]?=f d:=⟨_,ax e5⟩
    have e6:=zBF (List.mem_of_getElem? hd);have e7:=zh (zEh hd);have e8:aa (n.take (j+1))=aa (n.take j)+d.count:=by rw[<-zCM,<-zCM,<-zDJ,zEh hd,List.length_append]
    have g5:=zGd (n:=n) (j+1);obtain⟨k1,i1,l1,s1,t1,e1,n1⟩:=d;rw[Ct.count]at e6 e8;obtain⟨b,g9,a',R,rfl,hb,hX,⟨y0,y1,y2,y3,y4,y5,y6⟩,a5⟩:=F.at hd;have h1:=O.size;have hx:Fr No wr (wr.alloc (S #[C E k1,B i1,B l1,C E s1,C E t1,C E e1,q a' n1.length R] 224)):=(L _ _).alloc _;have h2:(wr.alloc (S #[C E k1,B i1,B l1,C E s1,C E t1,C E e1,q a' n1.length R] 224)).heap.size=(wr:H)+1:=by simp
    have a6:=a5.fr hx (λ_ _=>id);have b9:=zh F;clear hd F a5;generalize e9:aa (n.take j)=cj at *;clear e9
    go_wp2_with fail
    refine(Ih.out k1 s1 t1 e1 i1 l1 n1 a' R _ _ (by omega) a6).mono ?_;rintro e w2 ⟨⟨a2,c2,g0,rfl,b2,z⟩,d0⟩;have V:=hx.step d0 zi;have g1:=zh (O.step V zn);have A:=zAS u V zi;have h3:=V.size;have d1:=b2.len;rw[zDJ,Ct.count]at d1;have d2:=zh (b1.out.append b2);have d3:=zh (b9.out.fr V (λ_ _=>id));clear hx d0 O y0 y1 y2 y3 y4 y5 y6 a6 u V
    go_wp2_with (at_builtin;refine zx rfl _ _ 222 rfl (y:H) 224 i0 (.agg #[C E 0,B az,B az,C E 0,C E 0,C E 0,q Q 0 0]) 7 88 Tryz.underlying222 d6 d7 d8 d9 rfl (by decide) _ (cj+1) xs rfl A a2 (aa n1+1) c2 g0 rfl (λe=>absurd (zG6 z e).1 (by omega)) d1 (λad e=>zJ8 z ad e) b2.one (by unfold maxLen;omega) (by omega) (by first|omega|(simp;done)|(simp;omega)) ?_;intro v' wb D Z;obtain⟨g2,g3,rfl⟩:=zI D)
    have b3:Fr (From (y:H)) w2 wb:=zEl A Z;have g4:=zh (g1.out.step b3 zi);have d4:=zh D;have d5:=zh (d3.out.fr b3 (λb hb h=>by omega));have a7:cj+1+(aa n1+1)=aa (n.take (j+1))+1:=by omega
    have a8:=zh a7;clear D Z b3 z A a7
    go_wp2_with fail
    go_roundw
    case rel=>exact⟨j+1,g2,g3,_,by omega,by rw[a8.out],by go_num,by rw[e7.out];exact d2.out,by rw[<-a8.out];exact d4.out,g4.out,d5.out⟩
    case measure=>simp[ah];omega
   .have b8:¬ (j:G)<n.length:=by omega
    obtain rfl:j=n.length:=by omega
    rw[bd]at u b1 ⊢;have Ho:=zh (zAi (base':=(w:H)) u (by omega));have Hf:=zh (b7.out.trans (U:=No) O zi (λb hb h=>by omega));clear u O F
    go_wp2_with fail
    go_ret;exact⟨⟨av,cv,rfl,xs,by rw[Ct.walk];exact b1.out,Ho.out⟩,Hf.out⟩
theorem zCi (x y:G)(w:ai):
  al aj 306 #[C E x,C E y] w λu v=>u=.returned (.bool (decide (1<=x)&&decide (x<=y)))/\w=v:=by
 go_enter Tryz.func306,Tryz.ntmps306
 by_cases h:1<=x
 .by_cases o:x<=y
  .go_wp2_with fail
   go_ret;simp[h,o]
  .go_wp2_with fail
   go_ret;simp[o]
 .have z:=zh (ae h)
  go_wp2_with fail
  go_ret;rw[z.out];simp
theorem zK0 (k s t e:G)(i l:p)(v:Value)(w:ai):
  al aj 305 #[.agg #[C E k,B i,B l,C E s,C E t,C E e,v]] w λo I=>o=.returned (.bool (zAP s t))/\Fr No w I:=by
 have z:zAP s t=((decide (1<=t)&&decide (t<=16))&&(decide (1<=s)&&decide (s<=t))):=by unfold zAP;rw[ar]
 rw[z];clear z;have u:Fr No w (w.alloc (S #[C E k,B i,B l,C E s,C E t,C E e,v] 224)):=(L _ _).alloc _;have A:=zF w (S #[C E k,B i,B l,C E s,C E t,C E e,v] 224);obtain⟨D,h⟩:∃ D,D=w.alloc (S #[C E k,B i,B l,C E s,C E t,C E e,v] 224):=⟨_,rfl⟩
 rw[<-h]at u A;obtain⟨-,-,-,N,O⟩:=cl5 A;have F:=zh u;clear u
 go_enter Tryz.func305,Tryz.ntmps305
 go_upto_region 1 with(fail)
 rw[<-h];clear h
 go_wp2_with fail
 refine(zCi t 16 _).mono ?_;rintro o J ⟨rfl,rfl⟩;cases hb:(decide (1<=t)&&decide (t<=16))with
 | true=>
  have y:=zh hb;clear hb
  go_wp2_with fail
  refine(zCi s t _).mono ?_;rintro o J ⟨rfl,rfl⟩
  go_wp2_with fail
  go_ret;exact⟨by rw[y.out];simp,F.out⟩
 | false=>
  have y:=zh hb;clear hb
  go_wp2_with fail
  go_ret;exact⟨by rw[y.out];rfl,F.out⟩
theorem zI7 (b:am):idByte b=decide ((65<=b.toNat/\b.toNat<=90)\/(97<=b.toNat/\b.toNat<=122)\/(48<=b.toNat/\b.toNat<=57)\/b.toNat=95\/b.toNat=46\/b.toNat=45):=by
 have o:(b=95)=(b.toNat=95):=by rw[<-ay];rfl
 have u:(b=46)=(b.toNat=46):=by rw[<-ay];rfl
 have v:(b=45)=(b.toNat=45):=by rw[<-ay];rfl
 rw[idByte,au];simp only[Bool.or_eq_true,Bool.and_eq_true,decide_eq_true_eq,UInt8.le_iff_toNat_le,o,u,v];have h:(65:am).toNat=65/\(90:am).toNat=90/\(97:am).toNat=97/\(122:am).toNat=122/\(48:am).toNat=48/\(57:am).toNat=57:=⟨rfl,rfl,rfl,rfl,rfl,rfl⟩
 rw[h.1,h.2.1,h.2.2.1,h.2.2.2.1,h.2.2.2.2.1,h.2.2.2.2.2];omega
theorem zMA {s:p}(h:j<s.size)(u:idByte (s.data.toList.getD j 0)=K):isId s=false:=by
 unfold isId;have v:s.data.toList.getD j 0∈bl s:=by
  have o:j<s.data.toList.length:=h;rw[bb,ax o];exact List.getElem_mem o
 have y:(bl s).all idByte=false:=List.all_eq_false.2 ⟨_,v,by rw[u];simp⟩;rw[y,Bool.and_false]
theorem zEK (s:p)(w:ai)(hs:s.size<=100000):
  al aj 304 #[B s] w λen w2=>en=.returned (.bool (isId s))/\Fr No w w2:=by
 have U:=Lib.run_convert_string_bytes (P:=aj) w 9 67 5 s (u:=.string) Tryz.underlying9 Tryz.underlying67 Tryz.underlying5;have Z:Fr No w (ba w 5 s):=⟨rfl,rfl,rfl,by rw[Lib.bytesWorld_size];omega,λk hk _=>Lib.bytesWorld_at_old _ _ _ _ hk⟩
 have D:=Lib.bytesWorld_cell w 5 s;generalize grownCap w s.size 0 5=cp at U;obtain⟨W0,hW⟩:∃ W0,W0=ba w 5 s:=⟨_,rfl⟩
 rw[<-hW]at U Z D;have J:=zh Z;have a2:=zh D;have V:(bl s).length=s.size:=rfl;clear Z hW D
 go_enter Tryz.func304,Tryz.ntmps304
 go_wp2_with fail
 go_loop [8] (λi=>∃ j:H,j<=s.size/\i=C E (j:G)/\T (((bl s).take j).all idByte=r)) (λi=>s.size-(ah i).toNat)
 case atStart=>exact⟨0,by omega,rfl,rfl⟩
 case round=>
  obtain⟨j,hj,rfl,A⟩:=hrel;by_cases F:j<s.size
  .have a3:(j:G)<s.size:=by omega
   have hc:=a2.out j F;have y:=zh (zMA F);have z:T (((bl s).take (j+1)).all idByte=idByte (s.data.toList.getD j 0)):=by
    unfold T;have h2:j<s.data.toList.length:=F;rw[bc,List.all_append,A.out,ak];show ((s.data.toList)[j]?.toList).all idByte=_
    rw[bb,ax h2];simp
   have o:=zI7 (s.data.toList.getD j 0);obtain⟨N,hN⟩:∃ N:H,(s.data.toList.getD j 0).toNat=N:=⟨_,rfl⟩
   rw[hN]at hc o;have a4:N<256:=by rw[<-hN];exact UInt8.toNat_lt _
   clear hN;generalize s.data.toList.getD j 0=b at *;rcases(by omega:(65<=N/\N<=90)\/(97<=N/\N<=122)\/(48<=N/\N<=57)\/N=95\/N=46\/N=45\/(N<48/\N≠46/\N≠45)\/(58<=N/\N<65)\/(91<=N/\N<97/\N≠95)\/123<=N)with c|c|c|c|c|c|c|c|c|c
   .have v:T (idByte b=r):=by unfold T;rw[o];exact ag (by omega)
    clear o;have O:(65:G)<=(N:G):=by omega
    have R:(N:G)<=90:=by omega
    go_wp2_with fail
    go_roundw
    case rel=>exact⟨j+1,by omega,by go_num,by rw[z.out,v.out];rfl⟩
    case measure=>simp[ah];omega
   .have v:T (idByte b=r):=by unfold T;rw[o];exact ag (by omega)
    clear o;have O:(65:G)<=(N:G):=by omega
    have R:¬ (N:G)<=90:=by omega
    have X:(97:G)<=(N:G):=by omega
    have Y:(N:G)<=122:=by omega
    go_wp2_with fail
    go_roundw
    case rel=>exact⟨j+1,by omega,by go_num,by rw[z.out,v.out];rfl⟩
    case measure=>simp[ah];omega
   .have v:T (idByte b=r):=by unfold T;rw[o];exact ag (by omega)
    clear o;have O:¬ (65:G)<=(N:G):=by omega
    have R:¬ (97:G)<=(N:G):=by omega
    have X:(48:G)<=(N:G):=by omega
    have Y:(N:G)<=57:=by omega
    go_wp2_with fail
    go_roundw
    case rel=>exact⟨j+1,by omega,by go_num,by rw[z.out,v.out];rfl⟩
    case measure=>simp[ah];omega
   .have v:T (idByte b=r):=by unfold T;rw[o];exact ag (by omega)
    clear o;subst c
    go_wp2_with fail
    go_roundw
    case rel=>exact⟨j+1,by omega,by go_num,by rw[z.out,v.out];rfl⟩
    case measure=>simp[ah];omega
   .have v:T (idByte b=r):=by unfold T;rw[o];exact ag (by omega)
    clear o;subst c
    go_wp2_with fail
    go_roundw
    case rel=>exact⟨j+1,by omega,by go_num,by rw[z.out,v.out];rfl⟩
    case measure=>simp[ah];omega
   .have v:T (idByte b=r):=by unfold T;rw[o];exact ag (by omega)
    clear o;subst c
    go_wp2_with fail
    go_roundw
    case rel=>exact⟨j+1,by omega,by go_num,by rw[z.out,v.out];rfl⟩
    case measure=>simp[ah];omega
   .have v:T (idByte b=K):=by unfold T;rw[o];exact ae (by omega)
    clear o;have O:¬ (65:G)<=(N:G):=by omega
    have R:¬ (97:G)<=(N:G):=by omega
    have X:¬ (48:G)<=(N:G):=by omega
    have Y:¬ (N:G)=95:=by omega
    have n4:¬ (N:G)=46:=by omega
    have n5:¬ (N:G)=45:=by omega
    go_wp2_with fail
    go_ret;exact⟨by rw[y.out v.out];rfl,J.out⟩
   .have v:T (idByte b=K):=by unfold T;rw[o];exact ae (by omega)
    clear o;have O:¬ (65:G)<=(N:G):=by omega
    have R:¬ (97:G)<=(N:G):=by omega
    have X:(48:G)<=(N:G):=by omega
    have Y:¬ (N:G)<=57:=by omega
    have n4:¬ (N:G)=95:=by omega
    have n5:¬ (N:G)=46:=by omega
    have n6:¬ (N:G)=45:=by omega
    go_wp2_with fail
    go_ret;exact⟨by rw[y.out v.out];rfl,J.out⟩
   .have v:T (idByte b=K):=by unfold T;rw[o];exact ae (by omega)
    clear o;have O:(65:G)<=(N:G):=by omega
    have R:¬ (N:G)<=90:=by omega
    have X:¬ (97:G)<=(N:G):=by omega
    have Y:(48:G)<=(N:G):=by omega
    have n4:¬ (N:G)<=57:=by omega
    have n5:¬ (N:G)=95:=by omega
    have n6:¬ (N:G)=46:=by omega
    have n7:¬ (N:G)=45:=by omega
    go_wp2_with fail
    go_ret;exact⟨by rw[y.out v.out];rfl,J.out⟩
   .have v:T (idByte b=K):=by unfold T;rw[o];exact ae (by omega)
    clear o;have O:(65:G)<=(N:G):=by omega
    have R:¬ (N:G)<=90:=by omega
    have X:(97:G)<=(N:G):=by omega
    have Y:¬ (N:G)<=122:=by omega
    have n4:(48:G)<=(N:G):=by omega
    have n5:¬ (N:G)<=57:=by omega
    have n6:¬ (N:G)=95:=by omega
    have n7:¬ (N:G)=46:=by omega
    have n8:¬ (N:G)=45:=by omega
    go_wp2_with fail
    go_ret;exact⟨by rw[y.out v.out];rfl,J.out⟩
  .obtain rfl:j=s.size:=by omega
   have Hr:T (isId s=(!(bl s).isEmpty&&decide (s.size<=16))):=by
    have h:=A.out;have h2:(bl s).take s.size=bl s:=by rw[<-V,bd]
    rw[h2]at h;unfold T isId;rw[h,ao,V]
   have he:s.toList.isEmpty=(bl s).isEmpty:=by rw[ByteArray.toList_eq]
   cases hem:(bl s).isEmpty with
   | true=>
    rw[hem]at he;have I:=zh hem;clear hem
    go_wp2_with fail
    go_ret;exact⟨by rw[Hr.out,I.out];rfl,J.out⟩
   | false=>
    rw[hem]at he;have I:=zh hem;clear hem
    go_wp2_with fail
    go_ret;exact⟨by rw[Hr.out,I.out];simp;try omega,J.out⟩
theorem zPR (a:an Addr)(n o:H)(v:Value)(w:ai)(z:n<=100000):
  al aj 328 #[q a n o,q Q 0 0,v] w λu y=>u=.returned (.bool (decide (n=0)))/\w=y:=by
 go_enter Tryz.func328,Tryz.ntmps328
 by_cases h:n=0
 .subst h
  go_wp2_with fail
  go_loop [17] (λi=>i=C E 0) (λi=>0)
  case atStart=>rfl
  case round=>
   subst hrel
   go_wp2_with fail
   go_ret;exact⟨rfl,rfl⟩
 .have A:¬ (n:G)=0:=by omega
  go_wp2_with fail
  go_ret;exact⟨by rw[ae h];rfl,rfl⟩
def sameB (k s t e k' s' t' e':G)(i l i' l':p)(n:H):Bool:=decide (k=k')&&(i.toList==i'.toList)&&(l.toList==l'.toList)&&decide (s=s')&&decide (t=t')&&decide (e=e')&&decide (n=0)
theorem zEJ (k s t e u v y z:G)(i l A l':p)(a:an Addr)(n h:H)(w:ai)(hn:n<=100000):
  al aj 303 #[.agg #[C E k,B i,B l,C E s,C E t,C E e,q a n h],.agg #[C E u,B A,B l',C E v,C E y,C E z,q Q 0 0]] w λU w2=>U=.returned (.bool (sameB k s t e u v y z i l A l' n))/\Fr No w w2:=by
 have J:Fr No w ((w.alloc (S #[C E k,B i,B l,C E s,C E t,C E e,q a n h] 224)).alloc (S #[C E u,B A,B l',C E v,C E y,C E z,q Q 0 0] 224)):=((L _ _).alloc _).alloc _;have N:=zO w (S #[C E k,B i,B l,C E s,C E t,C E e,q a n h] 224) (S #[C E u,B A,B l',C E v,C E y,C E z,q Q 0 0] 224);have O:=zR w (S #[C E k,B i,B l,C E s,C E t,C E e,q a n h] 224) (S #[C E u,B A,B l',C E v,C E y,C E z,q Q 0 0] 224);obtain⟨V,D⟩:∃ V,V=(w.alloc (S #[C E k,B i,B l,C E s,C E t,C E e,q a n h] 224)).alloc (S #[C E u,B A,B l',C E v,C E y,C E z,q Q 0 0] 224):=⟨_,rfl⟩
 rw[<-D]at J N O;obtain⟨a0,a1,a2,a3,a4,a5,a6⟩:=cl7 N;obtain⟨b0,b1,b2,b3,b4,b5,b6⟩:=cl7 O;have o:=zh J;clear J N O
 go_enter Tryz.func303,Tryz.ntmps303
 go_upto_region 1 with(fail)
 rw[<-D];clear D;by_cases X:k=u
 case neg=>
  have Hk:=zh (ae X)
  go_wp2_with fail
  go_ret;exact⟨by unfold sameB;rw[Hk.out];simp,o.out⟩
 subst X;cases hi:(i.toList==A.toList)with
 | false=>
  have F:=zh hi
  go_wp2_with fail
  go_ret;exact⟨by unfold sameB;rw[F.out];simp,o.out⟩
 | true=>
  have F:=zh hi;cases hl:(l.toList==l'.toList)with
  | false=>
   have I:=zh hl
   go_wp2_with fail
   go_ret;exact⟨by unfold sameB;rw[I.out];simp,o.out⟩
  | true=>
   have I:=zh hl;by_cases Y:s=v
   case neg=>
    have Hs:=zh (ae Y)
    go_wp2_with fail
    go_ret;exact⟨by unfold sameB;rw[Hs.out];simp,o.out⟩
   subst Y;by_cases Z:t=y
   case neg=>
    have Ht:=zh (ae Z)
    go_wp2_with fail
    go_ret;exact⟨by unfold sameB;rw[Ht.out];simp,o.out⟩
   subst Z;by_cases he:e=z
   case neg=>
    have He:=zh (ae he)
    go_wp2_with fail
    go_ret;exact⟨by unfold sameB;rw[He.out];simp,o.out⟩
   subst he
   go_wp2_with fail
   refine(zPR a n h _ _ hn).mono ?_;rintro U w1 ⟨rfl,rfl⟩;cases hd:decide (n=0)with
   | true=>
    have R:=zh hd;clear hd
    go_wp2_with fail
    go_ret;exact⟨by unfold sameB;rw[F.out,I.out,R.out];simp,o.out⟩
   | false=>
    have R:=zh hd;clear hd
    go_wp2_with fail
    go_ret;exact⟨by unfold sameB;rw[F.out,I.out,R.out];simp,o.out⟩
theorem zCY (s t e:G):noNum s t e=(decide (s=0)&&decide (t=0)&&decide (e=0)):=rfl
theorem zBf (l:p):(l.toList==l.toList)=true:=by simp
theorem zBB (l:p):(l.toList==(⟨#[]⟩:p).toList)=(bl l).isEmpty:=by
 rw[ByteArray.toList_eq,ByteArray.toList_eq];show (l.data.toList==[])=l.data.toList.isEmpty
 cases l.data.toList<;>rfl
theorem zFY (n:ab Ct):decide (n.length=0)=n.isEmpty:=by cases n<;>simp
theorem zO2 (s t e:G)(i l:p)(n:ab Ct):alike (.mk 0 i l s t e n)=sameB 0 s t e 0 0 0 0 i l ⟨#[]⟩ ⟨#[]⟩ n.length:=by
 simp only[alike,aq,sameB,zBB,zFY,zCY,ap,ak];simp only[ar]
theorem zE6 (s t e:G)(i l:p)(n:ab Ct):alike (.mk 1 i l s t e n)=(n.isEmpty&&(((bl l).isEmpty||isId l)&&(isId i&&sameB 1 s t e 1 0 0 0 i l i l 0))):=by
 simp only[alike,sameB,zBf,zCY,ap,ak,ao];rw[M (by omega),aq trivial];cases n.isEmpty<;>cases isId i<;>cases((bl l).isEmpty||isId l)<;>simp
theorem zGl (s t e:G)(i l:p)(n:ab Ct):alike (.mk 2 i l s t e n)=(decide (n.length=1)&&(zAP s t&&((decide (1<=e)&&decide (e<=t))&&(isId i&&sameB 2 s t e 2 s t e i l i ⟨#[]⟩ 0)))):=by
 simp only[alike,sameB,zBf,zBB,ap,ak,ao];rw[M (by omega),M (by omega),aq trivial];cases isId i<;>cases(bl l).isEmpty<;>cases decide (n.length=1)<;>cases zAP s t<;>simp
theorem zLH (s t e:G)(i l:p)(n:ab Ct):alike (.mk 3 i l s t e n)=(decide (n.length=1)&&(isId i&&sameB 3 s t e 3 0 0 0 i l i ⟨#[]⟩ 0)):=by
 simp only[alike,sameB,zBf,zBB,zCY,ap,ak,ao];rw[M (by omega),M (by omega),M (by omega),aq trivial];cases isId i<;>cases(bl l).isEmpty<;>cases decide (n.length=1)<;>simp[ar]
theorem zIe (s t e:G)(i l:p)(n:ab Ct):alike (.mk 4 i l s t e n)=((decide (1<=(n.length:G))&&decide ((n.length:G)<=16))&&(zAP s t&&(isId i&&sameB 4 s t e 4 s t 0 i l i ⟨#[]⟩ 0))):=by
 have h:(decide (1<=(n.length:G))&&decide ((n.length:G)<=16))=someIn n:=by unfold someIn;rw[au];simp;omega
 rw[h];simp only[alike,sameB,zBf,zBB,ap,ak,ao];rw[M (by omega),M (by omega),M (by omega),M (by omega),aq trivial];cases isId i<;>cases(bl l).isEmpty<;>cases someIn n<;>cases zAP s t<;>simp
theorem zLG (s t e:G)(i l:p)(n:ab Ct):alike (.mk 5 i l s t e n)=((decide (1<=(n.length:G))&&decide ((n.length:G)<=16))&&(isId i&&sameB 5 s t e 5 0 0 0 i l i ⟨#[]⟩ 0)):=by
 have h:(decide (1<=(n.length:G))&&decide ((n.length:G)<=16))=someIn n:=by unfold someIn;rw[au];simp;omega
 rw[h];simp only[alike,sameB,zBf,zBB,zCY,ap,ak,ao];rw[M (by omega),M (by omega),M (by omega),M (by omega),M (by omega),aq trivial];cases isId i<;>cases(bl l).isEmpty<;>cases someIn n<;>simp[ar]
theorem zO1 {k:G}(s t e:G)(i l:p)(n:ab Ct)(h:k≠0)(o:k≠1)(u:k≠2)(v:k≠3)(y:k≠4)(z:k≠5):alike (.mk k i l s t e n)=false:=by
 rw[alike,M h,M o,M u,M v,M y,M z]
theorem zOJ (k s t e:G)(i l:p)(n:ab Ct)(a:an Addr)(b9:H)(w:ai)(hn:n.length<=100000)(e7:i.size<=100000)(j0:l.size<=100000):
  al aj 278 #[.agg #[C E k,B i,B l,C E s,C E t,C E e,q a n.length b9]] w λen w2=>en=.returned (.bool (alike (.mk k i l s t e n)))/\Fr No w w2:=by
 have h0:Fr No w (w.alloc (S #[C E k,B i,B l,C E s,C E t,C E e,q a n.length b9] 224)):=(L _ _).alloc _;have q1:=zF w (S #[C E k,B i,B l,C E s,C E t,C E e,q a n.length b9] 224);have j1:(w.alloc (S #[C E k,B i,B l,C E s,C E t,C E e,q a n.length b9] 224)).heap.size=(w:H)+1:=by simp
 obtain⟨W0,g9⟩:∃ W0,W0=w.alloc (S #[C E k,B i,B l,C E s,C E t,C E e,q a n.length b9] 224):=⟨_,rfl⟩
 rw[<-g9]at h0 q1 j1;obtain⟨U,a1,Y,F,I,V,X⟩:=cl7 q1;have H0:=zh h0
 go_enter Tryz.func278,Tryz.ntmps278
 go_upto_region 1 with(fail)
 rw[<-g9];clear g9 h0;by_cases h5:k=0
 .subst h5
  go_wp2_with fail
  refine(zEJ 0 s t e 0 0 0 0 i l ⟨#[]⟩ ⟨#[]⟩ a n.length b9 _ hn).mono ?_;rintro en w1 ⟨rfl,h6⟩;have Hf:=zh (H0.out.step h6 zi);clear h6
  go_wp2_with fail
  go_ret;exact⟨by rw[zO2];rfl,Hf.out⟩
 .go_wp2_with fail
  refine zQ (From (W0:H)) [(0,K),(1,K),(2,K),(3,K),(4,K),(5,K),(6,K),(7,K),(8,r),(9,r),(10,K)] (by kernel_rfl) (by kernel_rfl) (λo e4=>?_);have h1:¬ From (W0:H) (w:H):=λh=>by omega
  have g0:∀ g:Gr (From (W0:H)) o,g.W.cell? ⟨w,0,Q⟩=f (C E k):=λg=>g.fr.cell (e4.cell U id) h1
  have g1:∀ g:Gr (From (W0:H)) o,g.W.cell? ⟨w,1,Q⟩=f (B i):=λg=>g.fr.cell (e4.cell a1 id) h1
  have g6:∀ g:Gr (From (W0:H)) o,g.W.cell? ⟨w,6,Q⟩=f (q a n.length b9):=λg=>g.fr.cell (e4.cell X id) h1
  have h8:=e4.heap q1 id;have j4:=e4.size;have j2:=zh (H0.out.step e4 zi);clear U a1 Y F I V X q1 e4
  repeat (apply zT rfl rfl rfl;intro h4 hK;go_big_quiet_op;go_big_quiet_on)
  clear g0 g1 g6;apply zt;exact rfl
  go_wp2_with fail
  have e8:Fr No o (o.alloc (S #[C E 0,B ⟨#[]⟩,B ⟨#[]⟩,C E 0,C E 0,C E 0,q Q 0 0] 224)):=(L _ _).alloc _;refine zm e8 ?_;have q2:=zF o (S #[C E 0,B ⟨#[]⟩,B ⟨#[]⟩,C E 0,C E 0,C E 0,q Q 0 0] 224);have h2:=e8.heap h8 id;obtain⟨W1,h9⟩:∃ W1,W1=o.alloc (S #[C E 0,B ⟨#[]⟩,B ⟨#[]⟩,C E 0,C E 0,C E 0,q Q 0 0] 224):=⟨_,rfl⟩
  rw[<-h9]at e8 q2 h2 ⊢;have j3:=zh (j2.out.step e8 zi);have h7:=set7 q2 rfl (C E k) (B i) (B ⟨#[]⟩) (C E 0) (C E 0) (C E 0) (q Q 0 0);have z:=h7.2.heap h2 (λh=>by omega);have e1:=zh (j3.out.step h7.2 (λb hb h=>by omega));have i0:=zh h7.2;have y:=h7.1;have i1:=z;obtain⟨Z,b1,b2,A,D,J,b6⟩:=cl7 q2;obtain⟨f0,f1,f2,f3,f4,f5,f6⟩:=fl7 q2;clear h7 e8 h8 h2 q2 h9;apply zt;exact rfl
  go_wp2_with fail
  refine OnlyN.mk ⟨i0.out.mono (λb hb h=>by omega),?_⟩;clear i0;have hg:(w:H)<(o:H):=by omega
  generalize (((((((W1.setCell ⟨o,0,Q⟩ (C E k)).setCell ⟨o,1,Q⟩ (B i)).setCell ⟨o,2,Q⟩ (B ⟨#[]⟩)).setCell ⟨o,3,Q⟩ (C E 0)).setCell ⟨o,4,Q⟩ (C E 0)).setCell ⟨o,5,Q⟩ (C E 0)).setCell ⟨o,6,Q⟩ (q Q 0 0))=W3 at *;clear Z b1 b2 A D J b6 f0 f1 f2 f3 f4 f5 f6 i1
  repeat (apply zT rfl rfl rfl;intro h4 hK;go_big_quiet_op;go_big_quiet_on)
  refine zb ?_;by_cases i2:k=1
  .subst i2;obtain⟨U,a1,Y,F,I,V,X⟩:=cl7 z;obtain⟨Z,b1,b2,A,D,J,b6⟩:=cl7 y;obtain⟨f0,f1,f2,f3,f4,f5,f6⟩:=fl7 y
   go_upto_region 8 with(fail)
   have hz:Fr (Is (o:H)) W3 (W3.setCell ⟨o,2,Q⟩ (B l)):=af (L _ _) _;have a7:(W3.setCell ⟨o,2,Q⟩ (B l)).heap[(o:H)]?=f (S #[C E 1,B i,B l,C E 0,C E 0,C E 0,q Q 0 0] 224):=zE y 2 (B l);have d0:=hz.heap z (λh=>by omega);have d4:=zh (e1.out.step hz (λb hb h=>by omega));clear hz z y;clear U a1 Y F I V X Z b1 b2 A D J b6 f0 f1 f2 f3 f4 f5 f6;generalize W3.setCell ⟨o,2,Q⟩ (B l)=W4 at *;obtain⟨U,a1,Y,F,I,V,X⟩:=cl7 d0;obtain⟨Z,b1,b2,A,D,J,b6⟩:=cl7 a7;by_cases i3:n.length=0
   case neg=>
    have i4:(0:G)<(n.length:G):=by omega
    have Hd:T (n.isEmpty=K):=by unfold T;rw[<-zFY];exact ae i3
    go_wp2_with fail
    go_ret;exact⟨by rw[zE6,Hd.out];simp,d4.out⟩
   have i4:¬ (0:G)<(n.length:G):=by omega
   have Hd:T (n.isEmpty=r):=by unfold T;rw[<-zFY];exact ag i3
   have g7:l.toList.isEmpty=(bl l).isEmpty:=by rw[ByteArray.toList_eq]
   cases hll:(bl l).isEmpty with
   | true=>
    rw[hll]at g7;have Hl:T (((bl l).isEmpty||isId l)=r):=by unfold T;rw[hll];rfl
    clear hll
    go_upto_region 24 with(fail)
    clear U a1 Y F I V X Z b1 b2 A D J b6 g7;have c6:W4.cell? ⟨w,6,Q⟩=f (q a n.length b9):=zB d0 6;have f6:W4.frozen? ⟨w,6,Q⟩=false:=zD d0 6
    go_upto_region 25 with(fail)
    have hy:Fr (Is (w:H)) W4 (W4.setCell ⟨w,6,Q⟩ (q Q 0 0)):=af (L _ _) _;have p1:=zE d0 6 (q Q 0 0);have p2:=hy.heap a7 (λh=>by omega);have Hy:=zh (d4.out.step hy (λb hb h=>by omega));clear hy c6 f6 d0 a7;generalize W4.setCell ⟨w,6,Q⟩ (q Q 0 0)=W7 at *;have c1:W7.cell? ⟨w,1,Q⟩=f (B i):=zB p1 1
    go_wp2_with fail
    refine(zEK i _ e7).mono ?_;rintro en w8 ⟨rfl,u⟩;have r1:=u.heap p1 id;have r2:=u.heap p2 id;have N:=zh (Hy.out.step u zi);clear p1 p2 c1 u;obtain⟨U,a1,Y,F,I,V,X⟩:=cl7 r1;obtain⟨Z,b1,b2,A,D,J,b6⟩:=cl7 r2;cases hii:isId i with
    | false=>
     have v:=zh hii;clear hii
     go_wp2_with fail
     go_ret;exact⟨by rw[zE6,v.out];simp,N.out⟩
    | true=>
     have v:=zh hii;clear hii
     go_wp2_with fail
     refine(zEJ 1 s t e 1 0 0 0 i l i l Q 0 0 _ (by omega)).mono ?_;rintro en w9 ⟨rfl,O⟩;have d2:=zh (N.out.step O zi);clear O U a1 Y F I V X Z b1 b2 A D J b6 r1 r2
     go_wp2_with fail
     go_ret;exact⟨by rw[zE6,v.out,Hd.out,Hl.out];simp,d2.out⟩
   | false=>
    rw[hll]at g7;have i5:=zh hll;clear hll
    go_wp2_with fail
    refine(zEK l _ j0).mono ?_;rintro en w6 ⟨rfl,a9⟩;have a8:=a9.heap d0 id;have d5:=a9.heap a7 id;have d6:=zh (d4.out.step a9 zi);clear a9 d0 a7 U a1 Y F I V X Z b1 b2 A D J b6;cases hd2:isId l with
    | false=>
     have Hl:T (((bl l).isEmpty||isId l)=K):=by unfold T;rw[i5.out,hd2];rfl
     clear hd2
     go_wp2_with fail
     go_ret;exact⟨by rw[zE6,Hl.out];simp,d6.out⟩
    | true=>
     have Hl:T (((bl l).isEmpty||isId l)=r):=by unfold T;rw[i5.out,hd2];rfl
     clear hd2
     go_upto_region 24 with(fail)
     clear g7;have c6:w6.cell? ⟨w,6,Q⟩=f (q a n.length b9):=zB a8 6;have f6:w6.frozen? ⟨w,6,Q⟩=false:=zD a8 6
     go_upto_region 25 with(fail)
     have hy:Fr (Is (w:H)) w6 (w6.setCell ⟨w,6,Q⟩ (q Q 0 0)):=af (L _ _) _;have p1:=zE a8 6 (q Q 0 0);have p2:=hy.heap d5 (λh=>by omega);have Hy:=zh (d6.out.step hy (λb hb h=>by omega));clear hy c6 f6 a8 d5;generalize w6.setCell ⟨w,6,Q⟩ (q Q 0 0)=W7 at *;have c1:W7.cell? ⟨w,1,Q⟩=f (B i):=zB p1 1
     go_wp2_with fail
     refine(zEK i _ e7).mono ?_;rintro en w8 ⟨rfl,u⟩;have r1:=u.heap p1 id;have r2:=u.heap p2 id;have N:=zh (Hy.out.step u zi);clear p1 p2 c1 u;obtain⟨U,a1,Y,F,I,V,X⟩:=cl7 r1;obtain⟨Z,b1,b2,A,D,J,b6⟩:=cl7 r2;cases hii:isId i with
     | false=>
      have v:=zh hii;clear hii
      go_wp2_with fail
      go_ret;exact⟨by rw[zE6,v.out];simp,N.out⟩
     | true=>
      have v:=zh hii;clear hii
      go_wp2_with fail
      refine(zEJ 1 s t e 1 0 0 0 i l i l Q 0 0 _ (by omega)).mono ?_;rintro en w9 ⟨rfl,O⟩;have d2:=zh (N.out.step O zi);clear O U a1 Y F I V X Z b1 b2 A D J b6 r1 r2
      go_wp2_with fail
      go_ret;exact⟨by rw[zE6,v.out,Hd.out,Hl.out];simp,d2.out⟩
  by_cases i6:k=2
  .subst i6;obtain⟨U,a1,Y,F,I,V,X⟩:=cl7 z;obtain⟨Z,b1,b2,A,D,J,b6⟩:=cl7 y;obtain⟨f0,f1,f2,f3,f4,f5,f6⟩:=fl7 y
   go_wp2_with fail
   refine zQ (Is (o:H)) [(0,K),(1,K),(2,K),(3,K),(4,K),(5,K),(6,K),(7,r),(8,K),(9,r),(10,K),(11,r)] (by kernel_rfl) (by kernel_rfl) (λw4 b7=>?_);have g3:∀ g:Gr (Is (o:H)) w4,g.W.cell? ⟨w,3,Q⟩=f (C E s):=λg=>g.fr.cell (b7.cell F id) (show ¬ Is (o:H) (w:H) from by omega)
   have g4:∀ g:Gr (Is (o:H)) w4,g.W.cell? ⟨w,4,Q⟩=f (C E t):=λg=>g.fr.cell (b7.cell I id) (show ¬ Is (o:H) (w:H) from by omega)
   have g5:∀ g:Gr (Is (o:H)) w4,g.W.cell? ⟨w,5,Q⟩=f (C E e):=λg=>g.fr.cell (b7.cell V id) (show ¬ Is (o:H) (w:H) from by omega)
   have d0:=b7.heap z id;have a7:=b7.heap y id;have d4:=zh (e1.out.step b7 zi);clear z y b7;clear U a1 Y F I V X Z b1 b2 A D J b6 f0 f1 f2 f3 f4 f5 f6
   repeat (apply zT rfl rfl rfl;intro h4 hK;go_big_quiet_op;go_big_quiet_on)
   apply zt;exact rfl;have A:w4.cell? ⟨o,3,Q⟩=f (C E 0):=zB a7 3;have f3:w4.frozen? ⟨o,3,Q⟩=false:=zD a7 3
   go_wp2_with fail
   have d7:Fr (Is (o:H)) w4 (w4.setCell ⟨o,3,Q⟩ (C E s)):=af (L _ _) _;refine zf d7 ?_;have b8:(w4.setCell ⟨o,3,Q⟩ (C E s)).heap[(o:H)]?=f (S #[C E 2,B i,B ⟨#[]⟩,C E s,C E 0,C E 0,q Q 0 0] 224):=zE a7 3 (C E s);have e2:=d7.heap d0 (λh=>by omega);have e3:=zh (d4.out.step d7 (λb hb h=>by omega));clear d7 A f3 d0 a7 d4;generalize w4.setCell ⟨o,3,Q⟩ (C E s)=W40 at *
   repeat (apply zT rfl rfl rfl;intro h4 hK;go_big_quiet_op;go_big_quiet_on)
   apply zt;exact rfl;have D:W40.cell? ⟨o,4,Q⟩=f (C E 0):=zB b8 4;have f4:W40.frozen? ⟨o,4,Q⟩=false:=zD b8 4
   go_wp2_with fail
   have d8:Fr (Is (o:H)) W40 (W40.setCell ⟨o,4,Q⟩ (C E t)):=af (L _ _) _;refine zf d8 ?_;have R:(W40.setCell ⟨o,4,Q⟩ (C E t)).heap[(o:H)]?=f (S #[C E 2,B i,B ⟨#[]⟩,C E s,C E t,C E 0,q Q 0 0] 224):=zE b8 4 (C E t);have d1:=d8.heap e2 (λh=>by omega);have d3:=zh (e3.out.step d8 (λb hb h=>by omega));clear d8 D f4 e2 b8 e3;generalize W40.setCell ⟨o,4,Q⟩ (C E t)=W41 at *
   repeat (apply zT rfl rfl rfl;intro h4 hK;go_big_quiet_op;go_big_quiet_on)
   apply zt;exact rfl;have J:W41.cell? ⟨o,5,Q⟩=f (C E 0):=zB R 5;have f5:W41.frozen? ⟨o,5,Q⟩=false:=zD R 5
   go_wp2_with fail
   have g8:Fr (Is (o:H)) W41 (W41.setCell ⟨o,5,Q⟩ (C E e)):=af (L _ _) _;refine zf g8 ?_;have d9:(W41.setCell ⟨o,5,Q⟩ (C E e)).heap[(o:H)]?=f (S #[C E 2,B i,B ⟨#[]⟩,C E s,C E t,C E e,q Q 0 0] 224):=zE R 5 (C E e);have e0:=g8.heap d1 (λh=>by omega);have e6:=zh (d3.out.step g8 (λb hb h=>by omega));clear g8 J f5 d1 R d3;generalize W41.setCell ⟨o,5,Q⟩ (C E e)=W42 at *;refine zb ?_;clear g3 g4 g5;obtain⟨U,a1,Y,F,I,V,X⟩:=cl7 e0;obtain⟨Z,b1,b2,A,D,J,b6⟩:=cl7 d9;by_cases e9:n.length=1
   case neg=>
    have g2:¬ (n.length:G)=1:=by omega
    have Hd:=zh (ae e9)
    go_wp2_with fail
    go_ret;exact⟨by rw[zGl,Hd.out];simp,e6.out⟩
   have g2:(n.length:G)=1:=by omega
   have Hd:=zh (ag e9)
   go_wp2_with fail
   refine(zK0 2 s t e i l _ _).mono ?_;rintro en w6 ⟨rfl,a9⟩;have a8:=a9.heap e0 id;have d5:=a9.heap d9 id;have d6:=zh (e6.out.step a9 zi);clear a9 e0 d9 U a1 Y F I V X Z b1 b2 A D J b6;cases hd2:zAP s t with
   | false=>
    have e5:=zh hd2;clear hd2
    go_wp2_with fail
    go_ret;exact⟨by rw[zGl,e5.out];simp,d6.out⟩
   | true=>
    have e5:=zh hd2;clear hd2;obtain⟨U,a1,Y,F,I,V,X⟩:=cl7 a8;obtain⟨Z,b1,b2,A,D,J,b6⟩:=cl7 d5
    go_wp2_with fail
    refine(zCi e t _).mono ?_;rintro en w7 ⟨rfl,rfl⟩;cases hd3:(decide (1<=e)&&decide (e<=t))with
    | false=>
     have h3:=zh hd3;clear hd3
     go_wp2_with fail
     go_ret;exact⟨by rw[zGl,h3.out];simp,d6.out⟩
    | true=>
     have h3:=zh hd3;clear hd3
     go_upto_region 24 with(fail)
     clear U a1 Y F I V X Z b1 b2 A D J b6;have c6:w6.cell? ⟨w,6,Q⟩=f (q a n.length b9):=zB a8 6;have f6:w6.frozen? ⟨w,6,Q⟩=false:=zD a8 6
     go_upto_region 25 with(fail)
     have hy:Fr (Is (w:H)) w6 (w6.setCell ⟨w,6,Q⟩ (q Q 0 0)):=af (L _ _) _;have p1:=zE a8 6 (q Q 0 0);have p2:=hy.heap d5 (λh=>by omega);have Hy:=zh (d6.out.step hy (λb hb h=>by omega));clear hy c6 f6 a8 d5;generalize w6.setCell ⟨w,6,Q⟩ (q Q 0 0)=W7 at *;have c1:W7.cell? ⟨w,1,Q⟩=f (B i):=zB p1 1
     go_wp2_with fail
     refine(zEK i _ e7).mono ?_;rintro en w8 ⟨rfl,u⟩;have r1:=u.heap p1 id;have r2:=u.heap p2 id;have N:=zh (Hy.out.step u zi);clear p1 p2 c1 u;obtain⟨U,a1,Y,F,I,V,X⟩:=cl7 r1;obtain⟨Z,b1,b2,A,D,J,b6⟩:=cl7 r2;cases hii:isId i with
     | false=>
      have v:=zh hii;clear hii
      go_wp2_with fail
      go_ret;exact⟨by rw[zGl,v.out];simp,N.out⟩
     | true=>
      have v:=zh hii;clear hii
      go_wp2_with fail
      refine(zEJ 2 s t e 2 s t e i l i ⟨#[]⟩ Q 0 0 _ (by omega)).mono ?_;rintro en w9 ⟨rfl,O⟩;have d2:=zh (N.out.step O zi);clear O U a1 Y F I V X Z b1 b2 A D J b6 r1 r2
      go_wp2_with fail
      go_ret;exact⟨by rw[zGl,v.out,Hd.out,e5.out,h3.out];simp,d2.out⟩
  by_cases i7:k=3
  .subst i7;obtain⟨U,a1,Y,F,I,V,X⟩:=cl7 z;obtain⟨Z,b1,b2,A,D,J,b6⟩:=cl7 y;obtain⟨f0,f1,f2,f3,f4,f5,f6⟩:=fl7 y;by_cases e9:n.length=1
   case neg=>
    have g2:¬ (n.length:G)=1:=by omega
    have Hd:=zh (ae e9)
    go_wp2_with fail
    go_ret;exact⟨by rw[zLH,Hd.out];simp,e1.out⟩
   have g2:(n.length:G)=1:=by omega
   have Hd:=zh (ag e9)
   go_upto_region 24 with(fail)
   clear U a1 Y F I V X Z b1 b2 A D J b6 f0 f1 f2 f3 f4 f5 f6;have c6:W3.cell? ⟨w,6,Q⟩=f (q a n.length b9):=zB z 6;have f6:W3.frozen? ⟨w,6,Q⟩=false:=zD z 6
   go_upto_region 25 with(fail)
   have hy:Fr (Is (w:H)) W3 (W3.setCell ⟨w,6,Q⟩ (q Q 0 0)):=af (L _ _) _;have p1:=zE z 6 (q Q 0 0);have p2:=hy.heap y (λh=>by omega);have Hy:=zh (e1.out.step hy (λb hb h=>by omega));clear hy c6 f6 z y;generalize W3.setCell ⟨w,6,Q⟩ (q Q 0 0)=W7 at *;have c1:W7.cell? ⟨w,1,Q⟩=f (B i):=zB p1 1
   go_wp2_with fail
   refine(zEK i _ e7).mono ?_;rintro en w8 ⟨rfl,u⟩;have r1:=u.heap p1 id;have r2:=u.heap p2 id;have N:=zh (Hy.out.step u zi);clear p1 p2 c1 u;obtain⟨U,a1,Y,F,I,V,X⟩:=cl7 r1;obtain⟨Z,b1,b2,A,D,J,b6⟩:=cl7 r2;cases hii:isId i with
   | false=>
    have v:=zh hii;clear hii
    go_wp2_with fail
    go_ret;exact⟨by rw[zLH,v.out];simp,N.out⟩
   | true=>
    have v:=zh hii;clear hii
    go_wp2_with fail
    refine(zEJ 3 s t e 3 0 0 0 i l i ⟨#[]⟩ Q 0 0 _ (by omega)).mono ?_;rintro en w9 ⟨rfl,O⟩;have d2:=zh (N.out.step O zi);clear O U a1 Y F I V X Z b1 b2 A D J b6 r1 r2
    go_wp2_with fail
    go_ret;exact⟨by rw[zLH,v.out,Hd.out];simp,d2.out⟩
  by_cases i8:k=4
  .subst i8;obtain⟨U,a1,Y,F,I,V,X⟩:=cl7 z;obtain⟨Z,b1,b2,A,D,J,b6⟩:=cl7 y;obtain⟨f0,f1,f2,f3,f4,f5,f6⟩:=fl7 y
   go_wp2_with fail
   refine zQ (Is (o:H)) [(0,K),(1,K),(2,K),(3,K),(4,K),(5,r),(6,K),(7,r)] (by kernel_rfl) (by kernel_rfl) (λw4 b7=>?_);have g3:∀ g:Gr (Is (o:H)) w4,g.W.cell? ⟨w,3,Q⟩=f (C E s):=λg=>g.fr.cell (b7.cell F id) (show ¬ Is (o:H) (w:H) from by omega)
   have g4:∀ g:Gr (Is (o:H)) w4,g.W.cell? ⟨w,4,Q⟩=f (C E t):=λg=>g.fr.cell (b7.cell I id) (show ¬ Is (o:H) (w:H) from by omega)
   have d0:=b7.heap z id;have a7:=b7.heap y id;have d4:=zh (e1.out.step b7 zi);clear z y b7;clear U a1 Y F I V X Z b1 b2 A D J b6 f0 f1 f2 f3 f4 f5 f6
   repeat (apply zT rfl rfl rfl;intro h4 hK;go_big_quiet_op;go_big_quiet_on)
   apply zt;exact rfl;have A:w4.cell? ⟨o,3,Q⟩=f (C E 0):=zB a7 3;have f3:w4.frozen? ⟨o,3,Q⟩=false:=zD a7 3
   go_wp2_with fail
   have d7:Fr (Is (o:H)) w4 (w4.setCell ⟨o,3,Q⟩ (C E s)):=af (L _ _) _;refine zf d7 ?_;have b8:(w4.setCell ⟨o,3,Q⟩ (C E s)).heap[(o:H)]?=f (S #[C E 4,B i,B ⟨#[]⟩,C E s,C E 0,C E 0,q Q 0 0] 224):=zE a7 3 (C E s);have e2:=d7.heap d0 (λh=>by omega);have e3:=zh (d4.out.step d7 (λb hb h=>by omega));clear d7 A f3 d0 a7 d4;generalize w4.setCell ⟨o,3,Q⟩ (C E s)=W40 at *
   repeat (apply zT rfl rfl rfl;intro h4 hK;go_big_quiet_op;go_big_quiet_on)
   apply zt;exact rfl;have D:W40.cell? ⟨o,4,Q⟩=f (C E 0):=zB b8 4;have f4:W40.frozen? ⟨o,4,Q⟩=false:=zD b8 4
   go_wp2_with fail
   have d8:Fr (Is (o:H)) W40 (W40.setCell ⟨o,4,Q⟩ (C E t)):=af (L _ _) _;refine zf d8 ?_;have R:(W40.setCell ⟨o,4,Q⟩ (C E t)).heap[(o:H)]?=f (S #[C E 4,B i,B ⟨#[]⟩,C E s,C E t,C E 0,q Q 0 0] 224):=zE b8 4 (C E t);have d1:=d8.heap e2 (λh=>by omega);have d3:=zh (e3.out.step d8 (λb hb h=>by omega));clear d8 D f4 e2 b8 e3;generalize W40.setCell ⟨o,4,Q⟩ (C E t)=W41 at *;refine zb ?_;clear g3 g4;obtain⟨U,a1,Y,F,I,V,X⟩:=cl7 d1;obtain⟨Z,b1,b2,A,D,J,b6⟩:=cl7 R
   go_wp2_with fail
   refine(zCi (n.length:G) 16 _).mono ?_;rintro en w5 ⟨rfl,rfl⟩;cases hd:(decide (1<=(n.length:G))&&decide ((n.length:G)<=16))with
   | false=>
    have Hd:=zh hd;clear hd
    go_wp2_with fail
    go_ret;exact⟨by rw[zIe,Hd.out];simp,d3.out⟩
   | true=>
    have Hd:=zh hd;clear hd
    go_wp2_with fail
    refine(zK0 4 s t e i l _ _).mono ?_;rintro en w6 ⟨rfl,a9⟩;have a8:=a9.heap d1 id;have d5:=a9.heap R id;have d6:=zh (d3.out.step a9 zi);clear a9 d1 R U a1 Y F I V X Z b1 b2 A D J b6;cases hd2:zAP s t with
    | false=>
     have e5:=zh hd2;clear hd2
     go_wp2_with fail
     go_ret;exact⟨by rw[zIe,e5.out];simp,d6.out⟩
    | true=>
     have e5:=zh hd2;clear hd2
     go_upto_region 24 with(fail)
     have c6:w6.cell? ⟨w,6,Q⟩=f (q a n.length b9):=zB a8 6;have f6:w6.frozen? ⟨w,6,Q⟩=false:=zD a8 6
     go_upto_region 25 with(fail)
     have hy:Fr (Is (w:H)) w6 (w6.setCell ⟨w,6,Q⟩ (q Q 0 0)):=af (L _ _) _;have p1:=zE a8 6 (q Q 0 0);have p2:=hy.heap d5 (λh=>by omega);have Hy:=zh (d6.out.step hy (λb hb h=>by omega));clear hy c6 f6 a8 d5;generalize w6.setCell ⟨w,6,Q⟩ (q Q 0 0)=W7 at *;have c1:W7.cell? ⟨w,1,Q⟩=f (B i):=zB p1 1
     go_wp2_with fail
     refine(zEK i _ e7).mono ?_;rintro en w8 ⟨rfl,u⟩;have r1:=u.heap p1 id;have r2:=u.heap p2 id;have N:=zh (Hy.out.step u zi);clear p1 p2 c1 u;obtain⟨U,a1,Y,F,I,V,X⟩:=cl7 r1;obtain⟨Z,b1,b2,A,D,J,b6⟩:=cl7 r2;cases hii:isId i with
     | false=>
      have v:=zh hii;clear hii
      go_wp2_with fail
      go_ret;exact⟨by rw[zIe,v.out];simp,N.out⟩
     | true=>
      have v:=zh hii;clear hii
      go_wp2_with fail
      refine(zEJ 4 s t e 4 s t 0 i l i ⟨#[]⟩ Q 0 0 _ (by omega)).mono ?_;rintro en w9 ⟨rfl,O⟩;have d2:=zh (N.out.step O zi);clear O U a1 Y F I V X Z b1 b2 A D J b6 r1 r2
      go_wp2_with fail
      go_ret;exact⟨by rw[zIe,v.out,Hd.out,e5.out];simp,d2.out⟩
  by_cases i9:k=5
  .subst i9;obtain⟨U,a1,Y,F,I,V,X⟩:=cl7 z;obtain⟨Z,b1,b2,A,D,J,b6⟩:=cl7 y;obtain⟨f0,f1,f2,f3,f4,f5,f6⟩:=fl7 y
   go_wp2_with fail
   refine(zCi (n.length:G) 16 _).mono ?_;rintro en w4 ⟨rfl,rfl⟩;cases hd:(decide (1<=(n.length:G))&&decide ((n.length:G)<=16))with
   | false=>
    have Hd:=zh hd;clear hd
    go_wp2_with fail
    go_ret;exact⟨by rw[zLG,Hd.out];simp,e1.out⟩
   | true=>
    have Hd:=zh hd;clear hd
    go_upto_region 24 with(fail)
    clear U a1 Y F I V X Z b1 b2 A D J b6 f0 f1 f2 f3 f4 f5 f6;have c6:W3.cell? ⟨w,6,Q⟩=f (q a n.length b9):=zB z 6;have f6:W3.frozen? ⟨w,6,Q⟩=false:=zD z 6
    go_upto_region 25 with(fail)
    have hy:Fr (Is (w:H)) W3 (W3.setCell ⟨w,6,Q⟩ (q Q 0 0)):=af (L _ _) _;have p1:=zE z 6 (q Q 0 0);have p2:=hy.heap y (λh=>by omega);have Hy:=zh (e1.out.step hy (λb hb h=>by omega));clear hy c6 f6 z y;generalize W3.setCell ⟨w,6,Q⟩ (q Q 0 0)=W7 at *;have c1:W7.cell? ⟨w,1,Q⟩=f (B i):=zB p1 1
    go_wp2_with fail
    refine(zEK i _ e7).mono ?_;rintro en w8 ⟨rfl,u⟩;have r1:=u.heap p1 id;have r2:=u.heap p2 id;have N:=zh (Hy.out.step u zi);clear p1 p2 c1 u;obtain⟨U,a1,Y,F,I,V,X⟩:=cl7 r1;obtain⟨Z,b1,b2,A,D,J,b6⟩:=cl7 r2;cases hii:isId i with
    | false=>
     have v:=zh hii;clear hii
     go_wp2_with fail
     go_ret;exact⟨by rw[zLG,v.out];simp,N.out⟩
    | true=>
     have v:=zh hii;clear hii
     go_wp2_with fail
     refine(zEJ 5 s t e 5 0 0 0 i l i ⟨#[]⟩ Q 0 0 _ (by omega)).mono ?_;rintro en w9 ⟨rfl,O⟩;have d2:=zh (N.out.step O zi);clear O U a1 Y F I V X Z b1 b2 A D J b6 r1 r2
     go_wp2_with fail
     go_ret;exact⟨by rw[zLG,v.out,Hd.out];simp,d2.out⟩
  obtain⟨U,a1,Y,F,I,V,X⟩:=cl7 z;obtain⟨Z,b1,b2,A,D,J,b6⟩:=cl7 y;obtain⟨f0,f1,f2,f3,f4,f5,f6⟩:=fl7 y
  go_wp2_with fail
  go_ret;exact⟨by rw[zO1 s t e i l n h5 i2 i6 i7 i8 i9];rfl,e1.out⟩
end Go.Proofs.YtckkocmhlhefpaaGreatDoor
