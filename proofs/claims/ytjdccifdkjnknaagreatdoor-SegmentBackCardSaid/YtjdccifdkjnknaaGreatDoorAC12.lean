/- Joined by mergeK.py: Sh -/
import Derived.Test.YtjdccifdkjnknaaGreatDoorAC08
import Derived.Test.YtjdccifdkjnknaaGreatDoorAC11
