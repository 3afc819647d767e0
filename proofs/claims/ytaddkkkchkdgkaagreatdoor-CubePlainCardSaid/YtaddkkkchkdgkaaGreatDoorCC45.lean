/- What three rows come to: the laws' head, walked. -/
import Derived.Test.YtaddkkkchkdgkaaGreatDoorCC44
