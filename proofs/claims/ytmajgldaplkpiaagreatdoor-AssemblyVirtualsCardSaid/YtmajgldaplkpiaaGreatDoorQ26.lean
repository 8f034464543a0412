import Derived.Test.YtmajgldaplkpiaaGreatDoorQ25
namespace Go.Proofs.YtmajgldaplkpiaaGreatDoor
open Go.RowKit Go.Maps
set_option linter.unusedVariables false
set_option maxRecDepth 100000
set_option maxHeartbeats 2000000
theorem zGm (m:Nat):m<=10000->∀ (k s t e:Int) (i l:ByteArray) (n:List Ct) (a:Option Addr) (cap:Nat) (w:World) (X:Nat->Prop),Ct.counts n<m->InAt w X a cap n->
  Calls Tryz.prog 337 #[.agg #[.int .i64 k,.string i,.string l,.int .i64 s,.int .i64 t,.int .i64 e,.slice a n.length cap]] w fun en w2=>(∃ a' c',en=.returned (.agg #[.int .i64 k,.string i,.string l,.int .i64 s,.int .i64 t,.int .i64 e,.slice a' n.length c']))/\Fr No w w2:=by
 obtain⟨i0,hi0,hz0,hz1,hz2⟩:=info_parts infoC
 induction m with
 | zero=>intro _ k s t e i l n a cap w X h;omega
 | succ m ih=>
  intro hm k s t e i l n a cap w X hcn hin;have hnl:=zAN n;have h0:Fr No w ((w.alloc (.cells #[.int .i64 k,.string i,.string l,.int .i64 s,.int .i64 t,.int .i64 e,.slice a n.length cap] 256)).alloc (.cells #[.int .i64 0,.string ⟨#[]⟩,.string ⟨#[]⟩,.int .i64 0,.int .i64 0,.int .i64 0,.slice none 0 0] 256)):=((Fr.refl _ _).alloc _).alloc _;have q1:=zL w (.cells #[.int .i64 k,.string i,.string l,.int .i64 s,.int .i64 t,.int .i64 e,.slice a n.length cap] 256) (.cells #[.int .i64 0,.string ⟨#[]⟩,.string ⟨#[]⟩,.int .i64 0,.int .i64 0,.int .i64 0,.slice none 0 0] 256);have q2:=zP w (.cells #[.int .i64 k,.string i,.string l,.int .i64 s,.int .i64 t,.int .i64 e,.slice a n.length cap] 256) (.cells #[.int .i64 0,.string ⟨#[]⟩,.string ⟨#[]⟩,.int .i64 0,.int .i64 0,.int .i64 0,.slice none 0 0] 256);have hsz:((w.alloc (.cells #[.int .i64 k,.string i,.string l,.int .i64 s,.int .i64 t,.int .i64 e,.slice a n.length cap] 256)).alloc (.cells #[.int .i64 0,.string ⟨#[]⟩,.string ⟨#[]⟩,.int .i64 0,.int .i64 0,.int .i64 0,.slice none 0 0] 256)).heap.size=w.heap.size+2:=by simp
  obtain⟨W0,hW0⟩:∃ W0,W0=(w.alloc (.cells #[.int .i64 k,.string i,.string l,.int .i64 s,.int .i64 t,.int .i64 e,.slice a n.length cap] 256)).alloc (.cells #[.int .i64 0,.string ⟨#[]⟩,.string ⟨#[]⟩,.int .i64 0,.int .i64 0,.int .i64 0,.slice none 0 0] 256):=⟨_,rfl⟩
  rw[<-hW0]at h0 q1 q2 hsz;have hin0:=hin.fr h0 (fun _ _=>id);have c6:W0.cell? ⟨w.heap.size,6,none⟩=some (.slice a n.length cap):=zB q1 6;have Ih:=Lib.hid (ih (by omega));have H0:=Lib.hid h0;clear ih hin h0
  go_enter Tryz.func337,Tryz.ntmps337
  go_upto_region 1 with(fail)
  rw[<-hW0];clear hW0
  go_wp2_with fail
  go_loopw [3,9] (fun v x wr=>∃ (j:Nat) (av:Option Addr) (cv:Nat) (xs:List Value),j<=n.length/\v=.slice av j cv/\x=.int .i64 (j:Int)/\wr.ownsRow W0.heap.size 256 7 (.slice av j cv) j xs/\Fr (From W0.heap.size) W0 wr) (fun _ x _=>n.length-(intOf x).toNat)
  case atStart=>exact⟨0,none,0,[],by omega,rfl,rfl,World.ownsRow_nil _ _ _ _,Fr.refl _ _⟩
  case round=>
   obtain⟨j,av,cv,xs,hj,rfl,rfl,hown,hfr⟩:=hrel;by_cases hlt:j<n.length
   ·have hlt':(j:Int)<n.length:=by omega
    obtain⟨d,hd⟩:∃ d,n[j]?=some d:=⟨_,List.getElem?_eq_getElem hlt⟩
    have hdc:=zAo (List.mem_of_getElem? hd);obtain⟨k1,i1,l1,s1,t1,e1,n1⟩:=d;rw[Ct.count]at hdc;have hin2:InAt wr (fun b=>b<W0.heap.size) a cap n:=by
     have h3:=hin0.mono (Y:=fun b=>b<W0.heap.size) (fun b hb _=>hb);exact h3.fr hfr (fun b hb h=>by unfold From at h;omega)
    obtain⟨b,off,a',cap',rfl,hb,hX,⟨y0,y1,y2,y3,y4,y5,y6⟩,hin1⟩:=hin2.at hd;have hsr:=hfr.size;clear hd hin2
    go_wp2_with fail
    have hx:Fr No wr (wr.alloc (.cells #[.int .i64 k1,.string i1,.string l1,.int .i64 s1,.int .i64 t1,.int .i64 e1,.slice a' n1.length cap'] 256)):=(Fr.refl _ _).alloc _;refine(Ih.out k1 s1 t1 e1 i1 l1 n1 a' cap' _ _ (by omega) (hin1.fr hx (fun _ _=>id))).mono ?_;rintro e w2 ⟨⟨a2,c2,rfl⟩,hf2⟩;have hxf:=hx.step hf2 (fun _ _ h=>h);have Hfr:=Lib.hid (hfr.step hxf (fun _ _ h=>h.elim));have hown2:=zu hown hxf (fun _ _ h=>h);have hs2:=hxf.size;clear hx hf2 hfr y0 y1 y2 y3 y4 y5 y6 hin1 hown hxf
    go_wp2_with (at_builtin;refine wpList_append_own_at _ rfl _ _ 254 rfl W0.heap.size 256 i0 (.agg #[.int .i64 0,.string ByteArray.empty,.string ByteArray.empty,.int .i64 0,.int .i64 0,.int .i64 0,.slice none 0 0]) 7 88 Tryz.underlying254 hi0 hz0 hz1 hz2 rfl (by decide) _ _ _ rfl (hown2.alloc _) ⟨w2.heap.size,0,none⟩ 1 1 [.int .i64 k1,.string i1,.string l1,.int .i64 s1,.int .i64 t1,.int .i64 e1,.slice a2 n1.length c2] rfl rfl (zX _ _ _ rfl) (zCh _ _ _ _ _ _ _ _ _) (by unfold maxLen;omega) (by omega) (by first | omega | (simp;done) | (simp;omega)) ?_;intro v' wb hownb hgrow _ hat;obtain⟨avb,cvb,rfl⟩:=zG hownb)
    have hg6:Fr (From W0.heap.size) w2 wb:=zAi hown2 hgrow;have Hg6:=Lib.hid (Hfr.out.step hg6 (fun _ _ h=>h));have Hown:=Lib.hid hownb;clear hownb hgrow hat hg6 hown2
    go_wp2_with fail
    go_roundw
    case rel=>exact⟨j+1,avb,cvb,_,by omega,rfl,by go_num,Hown.out,Hg6.out⟩
    case measure=>simp[intOf];omega
   ·have hlt':¬ (j:Int)<n.length:=by omega
    obtain rfl:j=n.length:=by omega
    have r1:=hfr.heap q1 (fun h=>by unfold From at h;omega);have r2:=hfr.heap q2 (fun h=>by unfold From at h;omega);have Hfr:=Lib.hid (H0.out.trans (U:=No) hfr (fun _ _ h=>h) (fun b hb h=>by unfold From at h;omega));clear hfr q1 q2 c6;have c6:wr.cell? ⟨w.heap.size,6,none⟩=some (.slice a n.length cap):=zB r1 6;have f6:wr.frozen? ⟨w.heap.size,6,none⟩=false:=zC r1 6
    go_upto_region 8 with(fail)
    have hx1:Fr (Is w.heap.size) wr (wr.setCell ⟨w.heap.size,6,none⟩ (.slice av n.length cv)):=Fr.setAt (Fr.refl _ _) _;have p1:=zF r1 6 (.slice av n.length cv);have p2:=hx1.heap r2 (fun e=>by unfold Is at e;omega);have hsw:w.heap.size+2<=(wr.setCell ⟨w.heap.size,6,none⟩ (.slice av n.length cv)).heap.size:=by have:=zE r2;have:=hx1.size;omega
    have Hf1:=Lib.hid (Hfr.out.step hx1 (fun b hb h=>by unfold Is at h;omega));clear r1 r2 c6 f6;generalize wr.setCell ⟨w.heap.size,6,none⟩ (.slice av n.length cv)=W1 at *;obtain⟨a0,a1,a2,a3,a4,a5,a6⟩:=cl7 p1;obtain⟨b0,b1,b2,b3,b4,b5,b6⟩:=cl7 p2;obtain⟨bf0,bf1,bf2,bf3,bf4,bf5,bf6⟩:=fl7 p2;have h7:=set7 p2 rfl (.int .i64 k) (.string i) (.string l) (.int .i64 s) (.int .i64 t) (.int .i64 e) (.slice av n.length cv);have Hfin:=Lib.hid (Hf1.out.step h7.2 (fun b hb h=>by unfold Is at h;omega));have Hq:=Lib.hid h7.1;clear p1 p2 h7 hx1
    go_wp2_with fail
    have y0:=zB Hq.out 0;have y1:=zB Hq.out 1;have y2:=zB Hq.out 2;have y3:=zB Hq.out 3;have y4:=zB Hq.out 4;have y5:=zB Hq.out 5;have y6:=zB Hq.out 6;refine bodyPost_ret (v:=.agg #[.int .i64 k,.string i,.string l,.int .i64 s,.int .i64 t,.int .i64 e,.slice av n.length cv]) (by simp[results,Tryz.results337,go_sem,y0,y1,y2,y3,y4,y5,y6]) rfl ?_;exact⟨⟨av,cv,rfl⟩,Hfin.out⟩
inductive ShFlat : List Value->List Ct->Prop
 | nil:ShFlat [] []
 | cons (k s t e:Int) (i l:ByteArray) (n:List Ct) (a:Option Addr) (cap:Nat) {vs:List Value} {cs:List Ct} (h:ShFlat vs cs):ShFlat ([.int .i64 k,.string i,.string l,.int .i64 s,.int .i64 t,.int .i64 e,.slice a n.length cap]++vs) (.mk k i l s t e n::cs)
theorem ShFlat.append {vs vs':List Value}{cs cs':List Ct}(h:ShFlat vs cs)(h':ShFlat vs' cs'):ShFlat (vs++vs') (cs++cs'):=by
 induction h with
 | nil=>exact h'
 | cons k s t e i l n a cap h ih=>rw[List.append_assoc];exact .cons k s t e i l n a cap ih
theorem ShFlat.len {vs:List Value}{cs:List Ct}(h:ShFlat vs cs):vs.length=cs.length*7:=by
 induction h with
 | nil=>rfl
 | cons k s t e i l n a cap h ih=>simp[ih];omega
theorem ShFlat.one {vs:List Value}{cs:List Ct}(h:ShFlat vs cs):∀ u∈vs,u.oneCell'=true:=by
 induction h with
 | nil=>intro u hu;cases hu
 | cons k s t e i l n a cap h ih=>
  intro u hu;rcases List.mem_append.1 hu with hu | hu
  ·exact zCh _ _ _ _ _ _ _ _ _ u hu
  ·exact ih u hu
theorem ShFlat.at {vs:List Value}{cs:List Ct}(h:ShFlat vs cs){j:Nat}{k s t e:Int}{i l:ByteArray}{n:List Ct}(hj:cs[j]?=some (.mk k i l s t e n)):
  ∃ a cap,∀ q,q<7->vs[j*7+q]?=[Value.int .i64 k,.string i,.string l,.int .i64 s,.int .i64 t,.int .i64 e,.slice a n.length cap][q]?:=by
 induction h generalizing j with
 | nil=>simp at hj
 | cons k' s' t' e' i' l' n' a cap h ih=>
  cases j with
  | zero=>
   simp at hj;obtain⟨rfl,rfl,rfl,rfl,rfl,rfl,rfl⟩:=hj;exact⟨a,cap,fun q hq=>by rw[List.getElem?_append_left (by simp;omega)];simp⟩
  | succ j=>
   obtain⟨a',cap',h2⟩:=ih (by simpa using hj);exact⟨a',cap',fun q hq=>by rw[List.getElem?_append_right (by simp;omega),<-h2 q hq];congr 1;simp;omega⟩
theorem zHP {w:World}{base:Nat}{ty:TypeId}{sz:Nat}{a:Option Addr}{n c m:Nat}{xs:List Value}(h:w.ownsRow base ty sz (.slice a n c) m xs):∀ ad,a=some ad->∀ j u,xs[j]?=some u->w.cell? (ad.add j)=some u:=by
 rintro ad rfl j u hu;obtain⟨_,⟨h1,h2⟩ | ⟨g,cap,cur,h1,hg,hb,h6,h7,h8,h9⟩⟩:=h
 ·cases h1
 ·cases h1;rw[Addr.add_lit,zB hb];rw[<-h9]at hu;rw[<-Array.getElem?_toList];rw[List.getElem?_take]at hu;split at hu
  ·simpa using hu
  ·cases hu
theorem zJy {w:World}{base:Nat}{ty:TypeId}{sz:Nat}{a:Option Addr}{n c m:Nat}{xs:List Value}(h:w.ownsRow base ty sz (.slice a n c) m xs)(e:a=none):m=0/\c=0:=by
 subst e;obtain⟨_,⟨h1,h2⟩ | ⟨g,cap,cur,h1,hg,hb,h6,h7,h8,h9⟩⟩:=h
 ·cases h1;exact⟨h2,rfl⟩
 ·cases h1
theorem zDV {n:List Ct}{j:Nat}{d:Ct}(h:n[j]?=some d):Ct.walks (n.take (j+1))=Ct.walks (n.take j)++d.walk:=by
 rw[List.take_add_one,h,zAh];show _++(d.walk++[])=_
 rw[List.append_nil]
theorem zEf {n:List Ct}(j:Nat):Ct.counts (n.take j)<=Ct.counts n:=by
 have h2:=zAL (n.take j) (n.drop j);rw[List.take_append_drop]at h2;omega
theorem zIy (m:Nat):m<=10000->∀ (k s t e:Int) (i l:ByteArray) (n:List Ct) (a:Option Addr) (cap:Nat) (w:World) (X:Nat->Prop),Ct.counts n<m->InAt w X a cap n->
  Calls Tryz.prog 321 #[.agg #[.int .i64 k,.string i,.string l,.int .i64 s,.int .i64 t,.int .i64 e,.slice a n.length cap]] w fun en w2=>(∃ a' c' xs,en=.returned (.slice a' (Ct.counts n+1) c')/\ShFlat xs (Ct.mk k i l s t e n).walk/\w2.ownsRow w.heap.size 256 7 (.slice a' (Ct.counts n+1) c') (Ct.counts n+1) xs)/\Fr No w w2:=by
 obtain⟨i0,hi0,hz0,hz1,hz2⟩:=info_parts infoC
 induction m with
 | zero=>intro _ k s t e i l n a cap w X h;omega
 | succ m ih=>
  intro hm k s t e i l n a cap w X hcn hin;have hnl:=zAN n;have h0:Fr No w (w.alloc (.cells #[.int .i64 k,.string i,.string l,.int .i64 s,.int .i64 t,.int .i64 e,.slice a n.length cap] 256)):=(Fr.refl _ _).alloc _;have q1:=zD w (.cells #[.int .i64 k,.string i,.string l,.int .i64 s,.int .i64 t,.int .i64 e,.slice a n.length cap] 256);have hsz:(w.alloc (.cells #[.int .i64 k,.string i,.string l,.int .i64 s,.int .i64 t,.int .i64 e,.slice a n.length cap] 256)).heap.size=w.heap.size+1:=by simp
  obtain⟨W0,hW0⟩:∃ W0,W0=w.alloc (.cells #[.int .i64 k,.string i,.string l,.int .i64 s,.int .i64 t,.int .i64 e,.slice a n.length cap] 256):=⟨_,rfl⟩
  rw[<-hW0]at h0 q1 hsz;have hin0:=(hin.mono (Y:=fun b=>b<w.heap.size) (fun b hb _=>hb)).fr h0 (fun _ _=>id);obtain⟨c0,c1,c2,c3,c4,c5,c6⟩:=cl7 q1;have Ih:=Lib.hid (ih (by omega));have H0:=Lib.hid h0;clear ih hin h0
  go_enter Tryz.func321,Tryz.ntmps321
  go_upto_region 1 with(fail)
  rw[<-hW0];clear hW0
  go_wp2_with fail
  refine(zGm (m+1) hm k s t e i l n a cap _ _ hcn hin0).mono ?_;rintro en w1 ⟨⟨ac,cc,rfl⟩,hf1⟩;have q11:=hf1.heap q1 id;have hs1:=hf1.size;have hin1:=hin0.fr hf1 (fun _ _=>id);have hb1:Fr No w1 (w1.alloc (.cells #[.int .i64 k,.string i,.string l,.int .i64 s,.int .i64 t,.int .i64 e,.slice ac n.length cc] 256)):=(Fr.refl _ _).alloc _;have qb:=zD w1 (.cells #[.int .i64 k,.string i,.string l,.int .i64 s,.int .i64 t,.int .i64 e,.slice ac n.length cc] 256);have hsb:(w1.alloc (.cells #[.int .i64 k,.string i,.string l,.int .i64 s,.int .i64 t,.int .i64 e,.slice ac n.length cc] 256)).heap.size=w1.heap.size+1:=by simp
  obtain⟨WB,hWB⟩:∃ WB,WB=w1.alloc (.cells #[.int .i64 k,.string i,.string l,.int .i64 s,.int .i64 t,.int .i64 e,.slice ac n.length cc] 256):=⟨_,rfl⟩
  have hown1:WB.ownsRow w1.heap.size 256 7 (.slice (some ⟨w1.heap.size,0,none⟩) 1 1) 1 [.int .i64 k,.string i,.string l,.int .i64 s,.int .i64 t,.int .i64 e,.slice ac n.length cc]:=
   ⟨rfl,.inr ⟨w1.heap.size,1,_,rfl,Nat.le_refl _,by rw[hWB];exact qb,Nat.le_refl _,by unfold maxLen;omega,rfl,rfl⟩⟩
  rw[<-hWB]at hb1 qb hsb;have q12:=hb1.heap q11 id;have hin2:=hin1.fr hb1 (fun _ _=>id);have Hf02:=Lib.hid ((H0.out.step hf1 (fun _ _ h=>h)).step hb1 (fun _ _ h=>h));clear c0 c1 c2 c3 c4 c5 c6 q1 q11 hf1 hb1 qb hin1 hin0;have c6:WB.cell? ⟨w.heap.size,6,none⟩=some (.slice a n.length cap):=zB q12 6
  go_upto_region 2 with(fail)
  rw[<-hWB];clear hWB
  go_wp2_with fail
  go_loopw [3,12] (fun v x wr=>∃ (j:Nat) (av:Option Addr) (cv:Nat) (xs:List Value),j<=n.length/\v=.slice av (Ct.counts (n.take j)+1) cv/\x=.int .i64 (j:Int)/\Hid (ShFlat xs (.mk k i l s t e n::Ct.walks (n.take j)))/\wr.ownsRow w1.heap.size 256 7 (.slice av (Ct.counts (n.take j)+1) cv) (Ct.counts (n.take j)+1) xs/\Fr (From w1.heap.size) WB wr/\InAt wr (fun b=>b<w1.heap.size) a cap n) (fun _ x _=>n.length-(intOf x).toNat)
  case atStart=>
   refine⟨0,some ⟨w1.heap.size,0,none⟩,1,_,by omega,rfl,rfl,?_,hown1,Fr.refl _ _,?_⟩
   ·have h:=ShFlat.cons k s t e i l n ac cc ShFlat.nil;exact h
   ·exact hin2.mono (fun b _ hb=>by omega)
  case round=>
   obtain⟨j,av,cv,xs,hj,rfl,rfl,Hsh,hown,hfr,hinr⟩:=hrel;have hcl:=zEf (n:=n) j;by_cases hlt:j<n.length
   ·have hlt':(j:Int)<n.length:=by omega
    obtain⟨d,hd⟩:∃ d,n[j]?=some d:=⟨_,List.getElem?_eq_getElem hlt⟩
    have hdc:=zAo (List.mem_of_getElem? hd);have Hwt:=Lib.hid (zDV hd);have hct:Ct.counts (n.take (j+1))=Ct.counts (n.take j)+d.count:=by rw[<-zBf,<-zBf,<-zCP,zDV hd,List.length_append]
    have hcl2:=zEf (n:=n) (j+1);obtain⟨k1,i1,l1,s1,t1,e1,n1⟩:=d;rw[Ct.count]at hdc hct;obtain⟨b,off,a',cap',rfl,hb,hX,⟨y0,y1,y2,y3,y4,y5,y6⟩,hin3⟩:=hinr.at hd;have hsr:=hfr.size;have hx:Fr No wr (wr.alloc (.cells #[.int .i64 k1,.string i1,.string l1,.int .i64 s1,.int .i64 t1,.int .i64 e1,.slice a' n1.length cap'] 256)):=(Fr.refl _ _).alloc _;have hsx:(wr.alloc (.cells #[.int .i64 k1,.string i1,.string l1,.int .i64 s1,.int .i64 t1,.int .i64 e1,.slice a' n1.length cap'] 256)).heap.size=wr.heap.size+1:=by simp
    have hin4:=hin3.fr hx (fun _ _=>id);have Hinr:=Lib.hid hinr;clear hd hinr hin3;generalize hcj:Ct.counts (n.take j)=cj at *;clear hcj
    go_wp2_with fail
    refine(Ih.out k1 s1 t1 e1 i1 l1 n1 a' cap' _ _ (by omega) hin4).mono ?_;rintro e w2 ⟨⟨a2,c2,xs2,rfl,Hs2,hown2⟩,hf2⟩;have hxf:=hx.step hf2 (fun _ _ h=>h);have Hfr:=Lib.hid (hfr.step hxf (fun _ _ h=>h.elim));have hown3:=zu hown hxf (fun _ _ h=>h);have hs2:=hxf.size;have hsl:=Hs2.len;rw[zCP,Ct.count]at hsl;have Hsh2:=Lib.hid (Hsh.out.append Hs2);have Hin2:=Lib.hid (Hinr.out.fr hxf (fun _ _=>id));clear hx hf2 hfr y0 y1 y2 y3 y4 y5 y6 hin4 hown hxf
    go_wp2_with (at_builtin;refine zI rfl _ _ 254 rfl w1.heap.size 256 i0 (.agg #[.int .i64 0,.string ByteArray.empty,.string ByteArray.empty,.int .i64 0,.int .i64 0,.int .i64 0,.slice none 0 0]) 7 88 Tryz.underlying254 hi0 hz0 hz1 hz2 rfl (by decide) _ (cj+1) xs rfl hown3 a2 (Ct.counts n1+1) c2 xs2 rfl (fun e=>absurd (zJy hown2 e).1 (by omega)) hsl (fun ad e=>zHP hown2 ad e) Hs2.one (by unfold maxLen;omega) (by omega) (by first | omega | (simp;done) | (simp;omega)) ?_;intro v' wb hownb hgrow;obtain⟨avb,cvb,rfl⟩:=zG hownb)
    have hg6:Fr (From w1.heap.size) w2 wb:=zm hown3 hgrow;have Hg6:=Lib.hid (Hfr.out.step hg6 (fun _ _ h=>h));have Hown:=Lib.hid hownb;have Hin6:=Lib.hid (Hin2.out.fr hg6 (fun b hb h=>by unfold From at h;omega));have hlen:cj+1+(Ct.counts n1+1)=Ct.counts (n.take (j+1))+1:=by omega
    have Hlen:=Lib.hid hlen;clear hownb hgrow hg6 hown2 hown3 hlen
    go_wp2_with fail
    go_roundw
    case rel=>exact⟨j+1,avb,cvb,_,by omega,by rw[Hlen.out],by go_num,by rw[Hwt.out];exact Hsh2.out,by rw[<-Hlen.out];exact Hown.out,Hg6.out,Hin6.out⟩
    case measure=>simp[intOf];omega
   ·have hlt':¬ (j:Int)<n.length:=by omega
    obtain rfl:j=n.length:=by omega
    rw[List.take_length]at hown Hsh ⊢;have Ho:=Lib.hid (zq (base':=w.heap.size) hown (by omega));have Hf:=Lib.hid (Hf02.out.trans (U:=No) hfr (fun _ _ h=>h) (fun b hb h=>by unfold From at h;omega));clear hown hfr hinr
    go_wp2_with fail
    go_ret;exact⟨⟨av,cv,rfl,xs,by rw[Ct.walk];exact Hsh.out,Ho.out⟩,Hf.out⟩
theorem zBx (x y:Int)(w:World):
  Calls Tryz.prog 341 #[.int .i64 x,.int .i64 y] w fun en w2=>en=.returned (.bool (decide (1<=x)&&decide (x<=y)))/\w=w2:=by
 go_enter Tryz.func341,Tryz.ntmps341
 by_cases h1:1<=x
 ·by_cases h2:x<=y
  ·go_wp2_with fail
   go_ret;simp[h1,h2]
  ·go_wp2_with fail
   go_ret;simp[h2]
 ·have Hd:=Lib.hid (decide_eq_false h1)
  go_wp2_with fail
  go_ret;rw[Hd.out];simp
theorem zHz (k s t e:Int)(i l:ByteArray)(v:Value)(w:World):
  Calls Tryz.prog 340 #[.agg #[.int .i64 k,.string i,.string l,.int .i64 s,.int .i64 t,.int .i64 e,v]] w fun en w2=>en=.returned (.bool (zAC s t))/\Fr No w w2:=by
 have hd:zAC s t=((decide (1<=t)&&decide (t<=16))&&(decide (1<=s)&&decide (s<=t))):=by unfold zAC;rw[Bool.and_assoc]
 rw[hd];clear hd;have h0:Fr No w (w.alloc (.cells #[.int .i64 k,.string i,.string l,.int .i64 s,.int .i64 t,.int .i64 e,v] 256)):=(Fr.refl _ _).alloc _;have q1:=zD w (.cells #[.int .i64 k,.string i,.string l,.int .i64 s,.int .i64 t,.int .i64 e,v] 256);obtain⟨W0,hW0⟩:∃ W0,W0=w.alloc (.cells #[.int .i64 k,.string i,.string l,.int .i64 s,.int .i64 t,.int .i64 e,v] 256):=⟨_,rfl⟩
 rw[<-hW0]at h0 q1;obtain⟨-,-,-,c3,c4⟩:=cl5 q1;have H0:=Lib.hid h0;clear h0
 go_enter Tryz.func340,Tryz.ntmps340
 go_upto_region 1 with(fail)
 rw[<-hW0];clear hW0
 go_wp2_with fail
 refine(zBx t 16 _).mono ?_;rintro en w1 ⟨rfl,rfl⟩;cases hb:(decide (1<=t)&&decide (t<=16))with
 | true=>
  have Hb:=Lib.hid hb;clear hb
  go_wp2_with fail
  refine(zBx s t _).mono ?_;rintro en w1 ⟨rfl,rfl⟩
  go_wp2_with fail
  go_ret;exact⟨by rw[Hb.out];simp,H0.out⟩
 | false=>
  have Hb:=Lib.hid hb;clear hb
  go_wp2_with fail
  go_ret;exact⟨by rw[Hb.out];rfl,H0.out⟩
theorem zGe (b:UInt8):idByte b=decide ((65<=b.toNat/\b.toNat<=90)\/(97<=b.toNat/\b.toNat<=122)\/(48<=b.toNat/\b.toNat<=57)\/b.toNat=95\/b.toNat=46\/b.toNat=45):=by
 have e1:(b=95)=(b.toNat=95):=by rw[<-UInt8.toNat_inj];rfl
 have e2:(b=46)=(b.toNat=46):=by rw[<-UInt8.toNat_inj];rfl
 have e3:(b=45)=(b.toNat=45):=by rw[<-UInt8.toNat_inj];rfl
 rw[idByte,Bool.eq_iff_iff];simp only[Bool.or_eq_true,Bool.and_eq_true,decide_eq_true_eq,UInt8.le_iff_toNat_le,e1,e2,e3];have h:(65:UInt8).toNat=65/\(90:UInt8).toNat=90/\(97:UInt8).toNat=97/\(122:UInt8).toNat=122/\(48:UInt8).toNat=48/\(57:UInt8).toNat=57:=⟨rfl,rfl,rfl,rfl,rfl,rfl⟩
 rw[h.1,h.2.1,h.2.2.1,h.2.2.2.1,h.2.2.2.2.1,h.2.2.2.2.2];omega
theorem zIq {s:ByteArray}{j:Nat}(h:j<s.size)(hb:idByte (s.data.toList.getD j 0)=false):isId s=false:=by
 unfold isId;have hm:s.data.toList.getD j 0∈bl s:=by
  have h2:j<s.data.toList.length:=h;rw[List.getD_eq_getElem?_getD,List.getElem?_eq_getElem h2];exact List.getElem_mem h2
 have h3:(bl s).all idByte=false:=List.all_eq_false.2 ⟨_,hm,by rw[hb];simp⟩;rw[h3,Bool.and_false]
theorem zDB (s:ByteArray)(w:World)(hs:s.size<=100000):
  Calls Tryz.prog 339 #[.string s] w fun en w2=>en=.returned (.bool (isId s))/\Fr No w w2:=by
 have hcv:=Lib.run_convert_string_bytes (P:=Tryz.prog) w 9 180 5 s (u:=.string) Tryz.underlying9 Tryz.underlying180 Tryz.underlying5;have hf:Fr No w (Lib.bytesWorld w 5 s):=⟨rfl,rfl,rfl,by rw[Lib.bytesWorld_size];omega,fun k hk _=>Lib.bytesWorld_at_old _ _ _ _ hk⟩
 have hce:=Lib.bytesWorld_cell w 5 s;generalize grownCap w s.size 0 5=cp at hcv;obtain⟨W0,hW⟩:∃ W0,W0=Lib.bytesWorld w 5 s:=⟨_,rfl⟩
 rw[<-hW]at hcv hf hce;have Hf:=Lib.hid hf;have Hce:=Lib.hid hce;have hl0:(bl s).length=s.size:=rfl;clear hf hW hce
 go_enter Tryz.func339,Tryz.ntmps339
 go_wp2_with fail
 go_loop [8] (fun i=>∃ j:Nat,j<=s.size/\i=.int .i64 (j:Int)/\Hid (((bl s).take j).all idByte=true)) (fun i=>s.size-(intOf i).toNat)
 case atStart=>exact⟨0,by omega,rfl,rfl⟩
 case round=>
  obtain⟨j,hj,rfl,Hal0⟩:=hrel;by_cases hlt:j<s.size
  ·have hlt':(j:Int)<s.size:=by omega
   have hc:=Hce.out j hlt;have Hbad:=Lib.hid (zIq hlt);have Hal:Hid (((bl s).take (j+1)).all idByte=idByte (s.data.toList.getD j 0)):=by
    unfold Hid;have h2:j<s.data.toList.length:=hlt;rw[List.take_add_one,List.all_append,Hal0.out,Bool.true_and];show ((s.data.toList)[j]?.toList).all idByte=_
    rw[List.getD_eq_getElem?_getD,List.getElem?_eq_getElem h2];simp
   have hib:=zGe (s.data.toList.getD j 0);obtain⟨N,hN⟩:∃ N:Nat,(s.data.toList.getD j 0).toNat=N:=⟨_,rfl⟩
   rw[hN]at hc hib;have hN8:N<256:=by rw[<-hN];exact UInt8.toNat_lt _
   clear hN;generalize s.data.toList.getD j 0=b at *;rcases(by omega:(65<=N/\N<=90)\/(97<=N/\N<=122)\/(48<=N/\N<=57)\/N=95\/N=46\/N=45\/(N<48/\N≠46/\N≠45)\/(58<=N/\N<65)\/(91<=N/\N<97/\N≠95)\/123<=N)with c | c | c | c | c | c | c | c | c | c
   ·have Hb:Hid (idByte b=true):=by unfold Hid;rw[hib];exact decide_eq_true (by omega)
    clear hib;have n0:(65:Int)<=(N:Int):=by omega
    have n1:(N:Int)<=90:=by omega
    go_wp2_with fail
    go_roundw
    case rel=>exact⟨j+1,by omega,by go_num,by rw[Hal.out,Hb.out];rfl⟩
    case measure=>simp[intOf];omega
   ·have Hb:Hid (idByte b=true):=by unfold Hid;rw[hib];exact decide_eq_true (by omega)
    clear hib;have n0:(65:Int)<=(N:Int):=by omega
    have n1:¬ (N:Int)<=90:=by omega
    have n2:(97:Int)<=(N:Int):=by omega
    have n3:(N:Int)<=122:=by omega
    go_wp2_with fail
    go_roundw
    case rel=>exact⟨j+1,by omega,by go_num,by rw[Hal.out,Hb.out];rfl⟩
    case measure=>simp[intOf];omega
   ·have Hb:Hid (idByte b=true):=by unfold Hid;rw[hib];exact decide_eq_true (by omega)
    clear hib;have n0:¬ (65:Int)<=(N:Int):=by omega
    have n1:¬ (97:Int)<=(N:Int):=by omega
    have n2:(48:Int)<=(N:Int):=by omega
    have n3:(N:Int)<=57:=by omega
    go_wp2_with fail
    go_roundw
    case rel=>exact⟨j+1,by omega,by go_num,by rw[Hal.out,Hb.out];rfl⟩
    case measure=>simp[intOf];omega
   ·have Hb:Hid (idByte b=true):=by unfold Hid;rw[hib];exact decide_eq_true (by omega)
    clear hib;subst c
    go_wp2_with fail
    go_roundw
    case rel=>exact⟨j+1,by omega,by go_num,by rw[Hal.out,Hb.out];rfl⟩
    case measure=>simp[intOf];omega
   ·have Hb:Hid (idByte b=true):=by unfold Hid;rw[hib];exact decide_eq_true (by omega)
    clear hib;subst c
    go_wp2_with fail
    go_roundw
    case rel=>exact⟨j+1,by omega,by go_num,by rw[Hal.out,Hb.out];rfl⟩
    case measure=>simp[intOf];omega
   ·have Hb:Hid (idByte b=true):=by unfold Hid;rw[hib];exact decide_eq_true (by omega)
    clear hib;subst c
    go_wp2_with fail
    go_roundw
    case rel=>exact⟨j+1,by omega,by go_num,by rw[Hal.out,Hb.out];rfl⟩
    case measure=>simp[intOf];omega
   ·have Hb:Hid (idByte b=false):=by unfold Hid;rw[hib];exact decide_eq_false (by omega)
    clear hib;have n0:¬ (65:Int)<=(N:Int):=by omega
    have n1:¬ (97:Int)<=(N:Int):=by omega
    have n2:¬ (48:Int)<=(N:Int):=by omega
    have n3:¬ (N:Int)=95:=by omega
    have n4:¬ (N:Int)=46:=by omega
    have n5:¬ (N:Int)=45:=by omega
    go_wp2_with fail
    go_ret;exact⟨by rw[Hbad.out Hb.out];rfl,Hf.out⟩
   ·have Hb:Hid (idByte b=false):=by unfold Hid;rw[hib];exact decide_eq_false (by omega)
    clear hib;have n0:¬ (65:Int)<=(N:Int):=by omega
    have n1:¬ (97:Int)<=(N:Int):=by omega
    have n2:(48:Int)<=(N:Int):=by omega
    have n3:¬ (N:Int)<=57:=by omega
    have n4:¬ (N:Int)=95:=by omega
    have n5:¬ (N:Int)=46:=by omega
    have n6:¬ (N:Int)=45:=by omega
    go_wp2_with fail
    go_ret;exact⟨by rw[Hbad.out Hb.out];rfl,Hf.out⟩
   ·have Hb:Hid (idByte b=false):=by unfold Hid;rw[hib];exact decide_eq_false (by omega)
    clear hib;have n0:(65:Int)<=(N:Int):=by omega
    have n1:¬ (N:Int)<=90:=by omega
    have n2:¬ (97:Int)<=(N:Int):=by omega
    have n3:(48:Int)<=(N:Int):=by omega
    have n4:¬ (N:Int)<=57:=by omega
    have n5:¬ (N:Int)=95:=by omega
    have n6:¬ (N:Int)=46:=by omega
    have n7:¬ (N:Int)=45:=by omega
    go_wp2_with fail
    go_ret;exact⟨by rw[Hbad.out Hb.out];rfl,Hf.out⟩
   ·have Hb:Hid (idByte b=false):=by unfold Hid;rw[hib];exact decide_eq_false (by omega)
    clear hib;have n0:(65:Int)<=(N:Int):=by omega
    have n1:¬ (N:Int)<=90:=by omega
    have n2:(97:Int)<=(N:Int):=by omega
    have n3:¬ (N:Int)<=122:=by omega
    have n4:(48:Int)<=(N:Int):=by omega
    have n5:¬ (N:Int)<=57:=by omega
    have n6:¬ (N:Int)=95:=by omega
    have n7:¬ (N:Int)=46:=by omega
    have n8:¬ (N:Int)=45:=by omega
    go_wp2_with fail
    go_ret;exact⟨by rw[Hbad.out Hb.out];rfl,Hf.out⟩
  ·obtain rfl:j=s.size:=by omega
   have Hr:Hid (isId s=(!(bl s).isEmpty&&decide (s.size<=16))):=by
    have h:=Hal0.out;have h2:(bl s).take s.size=bl s:=by rw[<-hl0,List.take_length]
    rw[h2]at h;unfold Hid isId;rw[h,Bool.and_true,hl0]
   have he:s.toList.isEmpty=(bl s).isEmpty:=by rw[ByteArray.toList_eq]
   cases hem:(bl s).isEmpty with
   | true=>
    rw[hem]at he;have Hem:=Lib.hid hem;clear hem
    go_wp2_with fail
    go_ret;exact⟨by rw[Hr.out,Hem.out];rfl,Hf.out⟩
   | false=>
    rw[hem]at he;have Hem:=Lib.hid hem;clear hem
    go_wp2_with fail
    go_ret;exact⟨by rw[Hr.out,Hem.out];simp;try omega,Hf.out⟩
theorem zLL (a:Option Addr)(n cap:Nat)(v:Value)(w:World)(hn:n<=100000):
  Calls Tryz.prog 352 #[.slice a n cap,.slice none 0 0,v] w fun en w2=>en=.returned (.bool (decide (n=0)))/\w=w2:=by
 go_enter Tryz.func352,Tryz.ntmps352
 by_cases h:n=0
 ·subst h
  go_wp2_with fail
  go_loop [17] (fun i=>i=.int .i64 0) (fun i=>0)
  case atStart=>rfl
  case round=>
   subst hrel
   go_wp2_with fail
   go_ret;exact⟨rfl,rfl⟩
 ·have h':¬ (n:Int)=0:=by omega
  go_wp2_with fail
  go_ret;exact⟨by rw[decide_eq_false h];rfl,rfl⟩
def sameB (k s t e k' s' t' e':Int)(i l i' l':ByteArray)(n:Nat):Bool:=decide (k=k')&&(i.toList==i'.toList)&&(l.toList==l'.toList)&&decide (s=s')&&decide (t=t')&&decide (e=e')&&decide (n=0)
theorem zDA (k s t e k' s' t' e':Int)(i l i' l':ByteArray)(a:Option Addr)(n cap:Nat)(w:World)(hn:n<=100000):
  Calls Tryz.prog 338 #[.agg #[.int .i64 k,.string i,.string l,.int .i64 s,.int .i64 t,.int .i64 e,.slice a n cap],.agg #[.int .i64 k',.string i',.string l',.int .i64 s',.int .i64 t',.int .i64 e',.slice none 0 0]] w fun en w2=>en=.returned (.bool (sameB k s t e k' s' t' e' i l i' l' n))/\Fr No w w2:=by
 have h0:Fr No w ((w.alloc (.cells #[.int .i64 k,.string i,.string l,.int .i64 s,.int .i64 t,.int .i64 e,.slice a n cap] 256)).alloc (.cells #[.int .i64 k',.string i',.string l',.int .i64 s',.int .i64 t',.int .i64 e',.slice none 0 0] 256)):=((Fr.refl _ _).alloc _).alloc _;have q1:=zL w (.cells #[.int .i64 k,.string i,.string l,.int .i64 s,.int .i64 t,.int .i64 e,.slice a n cap] 256) (.cells #[.int .i64 k',.string i',.string l',.int .i64 s',.int .i64 t',.int .i64 e',.slice none 0 0] 256);have q2:=zP w (.cells #[.int .i64 k,.string i,.string l,.int .i64 s,.int .i64 t,.int .i64 e,.slice a n cap] 256) (.cells #[.int .i64 k',.string i',.string l',.int .i64 s',.int .i64 t',.int .i64 e',.slice none 0 0] 256);obtain⟨W0,hW0⟩:∃ W0,W0=(w.alloc (.cells #[.int .i64 k,.string i,.string l,.int .i64 s,.int .i64 t,.int .i64 e,.slice a n cap] 256)).alloc (.cells #[.int .i64 k',.string i',.string l',.int .i64 s',.int .i64 t',.int .i64 e',.slice none 0 0] 256):=⟨_,rfl⟩
 rw[<-hW0]at h0 q1 q2;obtain⟨a0,a1,a2,a3,a4,a5,a6⟩:=cl7 q1;obtain⟨b0,b1,b2,b3,b4,b5,b6⟩:=cl7 q2;have H0:=Lib.hid h0;clear h0 q1 q2
 go_enter Tryz.func338,Tryz.ntmps338
 go_upto_region 1 with(fail)
 rw[<-hW0];clear hW0;by_cases hk:k=k'
 case neg=>
  have Hk:=Lib.hid (decide_eq_false hk)
  go_wp2_with fail
  go_ret;exact⟨by unfold sameB;rw[Hk.out];simp,H0.out⟩
 subst hk;cases hi:(i.toList==i'.toList)with
 | false=>
  have Hi:=Lib.hid hi
  go_wp2_with fail
  go_ret;exact⟨by unfold sameB;rw[Hi.out];simp,H0.out⟩
 | true=>
  have Hi:=Lib.hid hi;cases hl:(l.toList==l'.toList)with
  | false=>
   have Hl:=Lib.hid hl
   go_wp2_with fail
   go_ret;exact⟨by unfold sameB;rw[Hl.out];simp,H0.out⟩
  | true=>
   have Hl:=Lib.hid hl;by_cases hs:s=s'
   case neg=>
    have Hs:=Lib.hid (decide_eq_false hs)
    go_wp2_with fail
    go_ret;exact⟨by unfold sameB;rw[Hs.out];simp,H0.out⟩
   subst hs;by_cases ht:t=t'
   case neg=>
    have Ht:=Lib.hid (decide_eq_false ht)
    go_wp2_with fail
    go_ret;exact⟨by unfold sameB;rw[Ht.out];simp,H0.out⟩
   subst ht;by_cases he:e=e'
   case neg=>
    have He:=Lib.hid (decide_eq_false he)
    go_wp2_with fail
    go_ret;exact⟨by unfold sameB;rw[He.out];simp,H0.out⟩
   subst he
   go_wp2_with fail
   refine(zLL a n cap _ _ hn).mono ?_;rintro en w1 ⟨rfl,rfl⟩;cases hd:decide (n=0)with
   | true=>
    have Hd:=Lib.hid hd;clear hd
    go_wp2_with fail
    go_ret;exact⟨by unfold sameB;rw[Hi.out,Hl.out,Hd.out];simp,H0.out⟩
   | false=>
    have Hd:=Lib.hid hd;clear hd
    go_wp2_with fail
    go_ret;exact⟨by unfold sameB;rw[Hi.out,Hl.out,Hd.out];simp,H0.out⟩
end Go.Proofs.YtmajgldaplkpiaaGreatDoor
